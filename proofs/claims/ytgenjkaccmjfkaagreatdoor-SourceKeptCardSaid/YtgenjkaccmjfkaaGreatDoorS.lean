/- Text S of this seat: written by a program of ours, or by hand; checked by Lean. -/
import Derived.Test.YtgenjkaccmjfkaaGreatDoorG
import Derived.Test.YtgenjkaccmjfkaaGreatDoorLay
set_option linter.unusedVariables false
namespace Go.En.Pl
open Go.Proofs
theorem eqsOK : ∀ t, eqs.contains t = true → EqTy Tryz.prog t :=
  (eqs_cons ⟨by kernel_rfl, by kernel_rfl, by kernel_rfl, by kernel_rfl⟩ (eqs_cons ⟨by kernel_rfl, by kernel_rfl, by kernel_rfl, by kernel_rfl⟩ (eqs_cons ⟨by kernel_rfl, by kernel_rfl, by kernel_rfl, by kernel_rfl⟩ eqs_nil)))
theorem extsOK : ∀ f x, exts.lookup f = some x → ExtOK Tryz.prog f x :=
  (exts_cons (ext_indexByte Tryz.func162 (by kernel_rfl) (by kernel_rfl) (by kernel_rfl) (by kernel_rfl)) exts_nil)
theorem envOK (V : Ev) (hV : V.OK) (l : List (FuncId × List CSpec)) (h1 : l.all (fun p => EnterOK Tryz.prog p.1) = true) (h2 : ∀ g s, s ∈ ((l.lookup g).getD []) → CallSound Tryz.prog (env V []) g s) : EnvOK Tryz.prog (env V l) where
  types := TypesOK.of_tab rfl (tabOK V l) eqsOK
  calls := fun g s hs => (h2 g s hs).env rfl rfl rfl
  mixed := by kernel_rfl
  ext := fun f h => extsOK f _ h rfl
  it := hV.it
  enters := enters_of_all h1

theorem soundfold_Lower_ (V : Ev) (hV : V.OK) : CallSound Tryz.prog (env V []) 25 ⟨sigfold_Lower_, fold_Lower_ V⟩ := by
  rw [← rawfold_Lower_ V]
  exact aFn_sound (E2 := env V []) (envOK V hV (callsfold_Lower_ V) (by kernel_rfl) (calls_nil rfl)) rfl rfl rfl Tryz.func25
theorem soundistringslite_HasPrefix_ (V : Ev) (hV : V.OK) : CallSound Tryz.prog (env V []) 127 ⟨sigistringslite_HasPrefix_, istringslite_HasPrefix_ V⟩ := by
  rw [← rawistringslite_HasPrefix_ V]
  exact aFn_sound (E2 := env V []) (envOK V hV (callsistringslite_HasPrefix_ V) (by kernel_rfl) (calls_nil rfl)) rfl rfl rfl Tryz.func127
theorem soundstrings_HasPrefix_ (V : Ev) (hV : V.OK) : CallSound Tryz.prog (env V []) 86 ⟨sigstrings_HasPrefix_, strings_HasPrefix_ V⟩ := by
  rw [← rawstrings_HasPrefix_ V]
  exact aFn_sound (E2 := env V []) (envOK V hV (callsstrings_HasPrefix_ V) (by kernel_rfl) (calls_cons ((cs_cons (soundistringslite_HasPrefix_ V hV) cs_nil)) (calls_nil rfl))) rfl rfl rfl Tryz.func86
theorem soundistringslite_HasSuffix_ (V : Ev) (hV : V.OK) : CallSound Tryz.prog (env V []) 237 ⟨sigistringslite_HasSuffix_, istringslite_HasSuffix_ V⟩ := by
  rw [← rawistringslite_HasSuffix_ V]
  exact aFn_sound (E2 := env V []) (envOK V hV (callsistringslite_HasSuffix_ V) (by kernel_rfl) (calls_nil rfl)) rfl rfl rfl Tryz.func237
theorem soundistringslite_TrimSuffix_ (V : Ev) (hV : V.OK) : CallSound Tryz.prog (env V []) 200 ⟨sigistringslite_TrimSuffix_, istringslite_TrimSuffix_ V⟩ := by
  rw [← rawistringslite_TrimSuffix_ V]
  exact aFn_sound (E2 := env V []) (envOK V hV (callsistringslite_TrimSuffix_ V) (by kernel_rfl) (calls_cons ((cs_cons (soundistringslite_HasSuffix_ V hV) cs_nil)) (calls_nil rfl))) rfl rfl rfl Tryz.func200
theorem soundstrings_TrimSuffix_ (V : Ev) (hV : V.OK) : CallSound Tryz.prog (env V []) 151 ⟨sigstrings_TrimSuffix_, strings_TrimSuffix_ V⟩ := by
  rw [← rawstrings_TrimSuffix_ V]
  exact aFn_sound (E2 := env V []) (envOK V hV (callsstrings_TrimSuffix_ V) (by kernel_rfl) (calls_cons ((cs_cons (soundistringslite_TrimSuffix_ V hV) cs_nil)) (calls_nil rfl))) rfl rfl rfl Tryz.func151
theorem soundbase_head_ (V : Ev) (hV : V.OK) : CallSound Tryz.prog (env V []) 114 ⟨sigbase_head_, base_head_ V⟩ := by
  rw [← rawbase_head_ V]
  exact aFn_sound (E2 := env V []) (envOK V hV (callsbase_head_ V) (by kernel_rfl) (calls_cons ((cs_cons (soundstrings_TrimSuffix_ V hV) cs_nil)) (calls_nil rfl))) rfl rfl rfl Tryz.func114
theorem soundistringslite_IndexByte_ (V : Ev) (hV : V.OK) : CallSound Tryz.prog (env V []) 129 ⟨sigistringslite_IndexByte_, istringslite_IndexByte_ V⟩ := by
  rw [← rawistringslite_IndexByte_ V]
  exact aFn_sound (E2 := env V []) (envOK V hV (callsistringslite_IndexByte_ V) (by kernel_rfl) (calls_nil rfl)) rfl rfl rfl Tryz.func129
theorem soundstrings_IndexByte_ (V : Ev) (hV : V.OK) : CallSound Tryz.prog (env V []) 89 ⟨sigstrings_IndexByte_, strings_IndexByte_ V⟩ := by
  rw [← rawstrings_IndexByte_ V]
  exact aFn_sound (E2 := env V []) (envOK V hV (callsstrings_IndexByte_ V) (by kernel_rfl) (calls_cons ((cs_cons (soundistringslite_IndexByte_ V hV) cs_nil)) (calls_nil rfl))) rfl rfl rfl Tryz.func89
theorem soundbase_value_ (V : Ev) (hV : V.OK) : CallSound Tryz.prog (env V []) 115 ⟨sigbase_value_, base_value_ V⟩ := by
  rw [← rawbase_value_ V]
  exact aFn_sound (E2 := env V []) (envOK V hV (callsbase_value_ V) (by kernel_rfl) (calls_cons ((cs_cons (soundstrings_IndexByte_ V hV) cs_nil)) (calls_nil rfl))) rfl rfl rfl Tryz.func115
theorem soundbase_Form_ (V : Ev) (hV : V.OK) : CallSound Tryz.prog (env V []) 74 ⟨sigbase_Form_, base_Form_ V⟩ := by
  rw [← rawbase_Form_ V]
  exact aFn_sound (E2 := env V []) (envOK V hV (callsbase_Form_ V) (by kernel_rfl) (calls_cons ((cs_cons (soundbase_head_ V hV) cs_nil)) (calls_cons ((cs_cons (soundbase_value_ V hV) cs_nil)) (calls_nil rfl)))) rfl rfl rfl Tryz.func74
theorem soundbase_Decode_ (V : Ev) (hV : V.OK) : CallSound Tryz.prog (env V []) 87 ⟨sigbase_Decode_, base_Decode_ V⟩ := by
  rw [← rawbase_Decode_ V]
  exact aFn_sound (E2 := env V []) (envOK V hV (callsbase_Decode_ V) (by kernel_rfl) (calls_cons ((cs_cons (soundbase_Form_ V hV) cs_nil)) (calls_cons ((cs_cons (soundbase_head_ V hV) cs_nil)) (calls_cons ((cs_cons (soundbase_value_ V hV) cs_nil)) (calls_nil rfl))))) rfl rfl rfl Tryz.func87
theorem soundsource_cutter_quoted_2b7 (V : Ev) (hV : V.OK) : CallSound Tryz.prog (env V []) 56 ⟨sigsource_cutter_quoted_2b7, source_cutter_quoted_2b7 V⟩ := by
  rw [← rawsource_cutter_quoted_2b7 V]
  exact aFn_sound (E2 := env V []) (envOK V hV (callssource_cutter_quoted_2b7 V) (by kernel_rfl) (calls_cons ((cs_cons (soundfold_Lower_ V hV) cs_nil)) (calls_cons ((cs_cons (soundstrings_HasPrefix_ V hV) cs_nil)) (calls_cons ((cs_cons (soundbase_Decode_ V hV) cs_nil)) (calls_nil rfl))))) rfl rfl rfl Tryz.func56
theorem soundistringslite_Index_ (V : Ev) : CallSound Tryz.prog (env V []) 161 ⟨sigistringslite_Index_, istringslite_Index_ V⟩ := given_index layIndex rfl
theorem soundistringslite_Cut_ (V : Ev) (hV : V.OK) : CallSound Tryz.prog (env V []) 128 ⟨sigistringslite_Cut_, istringslite_Cut_ V⟩ := by
  rw [← rawistringslite_Cut_ V]
  exact aFn_sound (E2 := env V []) (envOK V hV (callsistringslite_Cut_ V) (by kernel_rfl) (calls_cons ((cs_cons (soundistringslite_Index_ V) cs_nil)) (calls_nil rfl))) rfl rfl rfl Tryz.func128
theorem soundstrings_Cut_ (V : Ev) (hV : V.OK) : CallSound Tryz.prog (env V []) 88 ⟨sigstrings_Cut_, strings_Cut_ V⟩ := by
  rw [← rawstrings_Cut_ V]
  exact aFn_sound (E2 := env V []) (envOK V hV (callsstrings_Cut_ V) (by kernel_rfl) (calls_cons ((cs_cons (soundistringslite_Cut_ V hV) cs_nil)) (calls_nil rfl))) rfl rfl rfl Tryz.func88
theorem soundstrings_Trim_ (V : Ev) : CallSound Tryz.prog (env V []) 130 ⟨sigstrings_Trim_, strings_Trim_ V⟩ := given_trim layTrim (by kernel_rfl)
theorem soundistrconv_lower_ (V : Ev) (hV : V.OK) : CallSound Tryz.prog (env V []) 262 ⟨sigistrconv_lower_, istrconv_lower_ V⟩ := by
  rw [← rawistrconv_lower_ V]
  exact aFn_sound (E2 := env V []) (envOK V hV (callsistrconv_lower_ V) (by kernel_rfl) (calls_nil rfl)) rfl rfl rfl Tryz.func262
theorem soundistrconv_underscoreOK_ (V : Ev) (hV : V.OK) : CallSound Tryz.prog (env V []) 263 ⟨sigistrconv_underscoreOK_, istrconv_underscoreOK_ V⟩ := by
  rw [← rawistrconv_underscoreOK_ V]
  exact aFn_sound (E2 := env V []) (envOK V hV (callsistrconv_underscoreOK_ V) (by kernel_rfl) (calls_cons ((cs_cons (soundistrconv_lower_ V hV) cs_nil)) (calls_nil rfl))) rfl rfl rfl Tryz.func263
theorem soundistrconv_ParseUint_ (V : Ev) (hV : V.OK) : CallSound Tryz.prog (env V []) 250 ⟨sigistrconv_ParseUint_, istrconv_ParseUint_ V⟩ := by
  rw [← rawistrconv_ParseUint_ V]
  exact aFn_sound (E2 := env V []) (envOK V hV (callsistrconv_ParseUint_ V) (by kernel_rfl) (calls_cons ((cs_cons (soundistrconv_lower_ V hV) cs_nil)) (calls_cons ((cs_cons (soundistrconv_underscoreOK_ V hV) cs_nil)) (calls_nil rfl)))) rfl rfl rfl Tryz.func250
theorem soundistrconv_ParseInt_ (V : Ev) (hV : V.OK) : CallSound Tryz.prog (env V []) 219 ⟨sigistrconv_ParseInt_, istrconv_ParseInt_ V⟩ := by
  rw [← rawistrconv_ParseInt_ V]
  exact aFn_sound (E2 := env V []) (envOK V hV (callsistrconv_ParseInt_ V) (by kernel_rfl) (calls_cons ((cs_cons (soundistrconv_ParseUint_ V hV) cs_nil)) (calls_nil rfl))) rfl rfl rfl Tryz.func219
theorem soundistrconv_Atoi_ (V : Ev) (hV : V.OK) : CallSound Tryz.prog (env V []) 170 ⟨sigistrconv_Atoi_, istrconv_Atoi_ V⟩ := by
  rw [← rawistrconv_Atoi_ V]
  exact aFn_sound (E2 := env V []) (envOK V hV (callsistrconv_Atoi_ V) (by kernel_rfl) (calls_cons ((cs_cons (soundistrconv_ParseInt_ V hV) cs_nil)) (calls_nil rfl))) rfl rfl rfl Tryz.func170
theorem soundistringslite_Clone_ (V : Ev) (hV : V.OK) : CallSound Tryz.prog (env V []) 251 ⟨sigistringslite_Clone_, istringslite_Clone_ V⟩ := by
  rw [← rawistringslite_Clone_ V]
  exact aFn_sound (E2 := env V []) (envOK V hV (callsistringslite_Clone_ V) (by kernel_rfl) (calls_nil rfl)) rfl rfl rfl Tryz.func251
theorem soundstrconv_syntaxError_d9f (V : Ev) (hV : V.OK) : CallSound Tryz.prog (env V []) 220 ⟨sigstrconv_syntaxError_d9f, strconv_syntaxError_d9f V⟩ := by
  rw [← rawstrconv_syntaxError_d9f V]
  exact aFn_sound (E2 := env V []) (envOK V hV (callsstrconv_syntaxError_d9f V) (by kernel_rfl) (calls_cons ((cs_cons (soundistringslite_Clone_ V hV) cs_nil)) (calls_nil rfl))) rfl rfl rfl Tryz.func220
theorem soundstrconv_rangeError_d9f (V : Ev) (hV : V.OK) : CallSound Tryz.prog (env V []) 221 ⟨sigstrconv_rangeError_d9f, strconv_rangeError_d9f V⟩ := by
  rw [← rawstrconv_rangeError_d9f V]
  exact aFn_sound (E2 := env V []) (envOK V hV (callsstrconv_rangeError_d9f V) (by kernel_rfl) (calls_cons ((cs_cons (soundistringslite_Clone_ V hV) cs_nil)) (calls_nil rfl))) rfl rfl rfl Tryz.func221
theorem soundistrconv_Itoa_ (V : Ev) : CallSound Tryz.prog (env V []) 118 ⟨sigistrconv_Itoa_, istrconv_Itoa_ V⟩ := given_itoa (g := 3) (t := 207) layItoa (by kernel_rfl) (by kernel_rfl)
theorem soundstrconv_Itoa_ (V : Ev) (hV : V.OK) : CallSound Tryz.prog (env V []) 79 ⟨sigstrconv_Itoa_, strconv_Itoa_ V⟩ := by
  rw [← rawstrconv_Itoa_ V]
  exact aFn_sound (E2 := env V []) (envOK V hV (callsstrconv_Itoa_ V) (by kernel_rfl) (calls_cons ((cs_cons (soundistrconv_Itoa_ V) cs_nil)) (calls_nil rfl))) rfl rfl rfl Tryz.func79
theorem sounderrors_New_ (V : Ev) (hV : V.OK) : CallSound Tryz.prog (env V []) 252 ⟨sigerrors_New_, errors_New_ V⟩ := by
  rw [← rawerrors_New_ V]
  exact aFn_sound (E2 := env V []) (envOK V hV (callserrors_New_ V) (by kernel_rfl) (calls_nil rfl)) rfl rfl rfl Tryz.func252
theorem soundstrconv_baseError_cf4 (V : Ev) (hV : V.OK) : CallSound Tryz.prog (env V []) 222 ⟨sigstrconv_baseError_cf4, strconv_baseError_cf4 V⟩ := by
  rw [← rawstrconv_baseError_cf4 V]
  exact aFn_sound (E2 := env V []) (envOK V hV (callsstrconv_baseError_cf4 V) (by kernel_rfl) (calls_cons ((cs_cons (soundstrconv_Itoa_ V hV) cs_nil)) (calls_cons ((cs_cons (soundistringslite_Clone_ V hV) cs_nil)) (calls_cons ((cs_cons (sounderrors_New_ V hV) cs_nil)) (calls_nil rfl))))) rfl rfl rfl Tryz.func222
theorem soundstrconv_bitSizeError_cf4 (V : Ev) (hV : V.OK) : CallSound Tryz.prog (env V []) 223 ⟨sigstrconv_bitSizeError_cf4, strconv_bitSizeError_cf4 V⟩ := by
  rw [← rawstrconv_bitSizeError_cf4 V]
  exact aFn_sound (E2 := env V []) (envOK V hV (callsstrconv_bitSizeError_cf4 V) (by kernel_rfl) (calls_cons ((cs_cons (soundstrconv_Itoa_ V hV) cs_nil)) (calls_cons ((cs_cons (soundistringslite_Clone_ V hV) cs_nil)) (calls_cons ((cs_cons (sounderrors_New_ V hV) cs_nil)) (calls_nil rfl))))) rfl rfl rfl Tryz.func223
theorem soundstrconv_toError_666 (V : Ev) (hV : V.OK) : CallSound Tryz.prog (env V []) 171 ⟨sigstrconv_toError_666, strconv_toError_666 V⟩ := by
  rw [← rawstrconv_toError_666 V]
  exact aFn_sound (E2 := env V []) (envOK V hV (callsstrconv_toError_666 V) (by kernel_rfl) (calls_cons ((cs_cons (soundstrconv_syntaxError_d9f V hV) cs_nil)) (calls_cons ((cs_cons (soundstrconv_rangeError_d9f V hV) cs_nil)) (calls_cons ((cs_cons (soundstrconv_baseError_cf4 V hV) cs_nil)) (calls_cons ((cs_cons (soundstrconv_bitSizeError_cf4 V hV) cs_nil)) (calls_nil rfl)))))) rfl rfl rfl Tryz.func171
theorem soundstrconv_Atoi_ (V : Ev) (hV : V.OK) : CallSound Tryz.prog (env V []) 131 ⟨sigstrconv_Atoi_, strconv_Atoi_ V⟩ := by
  rw [← rawstrconv_Atoi_ V]
  exact aFn_sound (E2 := env V []) (envOK V hV (callsstrconv_Atoi_ V) (by kernel_rfl) (calls_cons ((cs_cons (soundistrconv_Atoi_ V hV) cs_nil)) (calls_cons ((cs_cons (soundstrconv_toError_666 V hV) cs_nil)) (calls_nil rfl)))) rfl rfl rfl Tryz.func131
theorem soundsource_cutter_port_456 (V : Ev) (hV : V.OK) : CallSound Tryz.prog (env V []) 90 ⟨sigsource_cutter_port_456, source_cutter_port_456 V⟩ := by
  rw [← rawsource_cutter_port_456 V]
  exact aFn_sound (E2 := env V []) (envOK V hV (callssource_cutter_port_456 V) (by kernel_rfl) (calls_cons ((cs_cons (soundstrings_Trim_ V) cs_nil)) (calls_cons ((cs_cons (soundstrconv_Atoi_ V hV) cs_nil)) (calls_nil rfl)))) rfl rfl rfl Tryz.func90
theorem soundistringslite_CutPrefix_ (V : Ev) (hV : V.OK) : CallSound Tryz.prog (env V []) 132 ⟨sigistringslite_CutPrefix_, istringslite_CutPrefix_ V⟩ := by
  rw [← rawistringslite_CutPrefix_ V]
  exact aFn_sound (E2 := env V []) (envOK V hV (callsistringslite_CutPrefix_ V) (by kernel_rfl) (calls_cons ((cs_cons (soundistringslite_HasPrefix_ V hV) cs_nil)) (calls_nil rfl))) rfl rfl rfl Tryz.func132
theorem soundstrings_CutPrefix_ (V : Ev) (hV : V.OK) : CallSound Tryz.prog (env V []) 91 ⟨sigstrings_CutPrefix_, strings_CutPrefix_ V⟩ := by
  rw [← rawstrings_CutPrefix_ V]
  exact aFn_sound (E2 := env V []) (envOK V hV (callsstrings_CutPrefix_ V) (by kernel_rfl) (calls_cons ((cs_cons (soundistringslite_CutPrefix_ V hV) cs_nil)) (calls_nil rfl))) rfl rfl rfl Tryz.func91
theorem soundsource_cutter_host_2b7 (V : Ev) (hV : V.OK) : CallSound Tryz.prog (env V []) 57 ⟨sigsource_cutter_host_2b7, source_cutter_host_2b7 V⟩ := by
  rw [← rawsource_cutter_host_2b7 V]
  exact aFn_sound (E2 := env V []) (envOK V hV (callssource_cutter_host_2b7 V) (by kernel_rfl) (calls_cons ((cs_cons (soundfold_Lower_ V hV) cs_nil)) (calls_cons ((cs_cons (soundstrings_Cut_ V hV) cs_nil)) (calls_cons ((cs_cons (soundstrings_IndexByte_ V hV) cs_nil)) (calls_cons ((cs_cons (soundsource_cutter_port_456 V hV) cs_nil)) (calls_cons ((cs_cons (soundstrings_CutPrefix_ V hV) cs_nil)) (calls_nil rfl))))))) rfl rfl rfl Tryz.func57
theorem soundurl_Default_ (V : Ev) (hV : V.OK) : CallSound Tryz.prog (env V []) 116 ⟨sigurl_Default_, url_Default_ V⟩ := by
  rw [← rawurl_Default_ V]
  exact aFn_sound (E2 := env V []) (envOK V hV (callsurl_Default_ V) (by kernel_rfl) (calls_nil rfl)) rfl rfl rfl Tryz.func116
theorem soundurl_letter_ (V : Ev) (hV : V.OK) : CallSound Tryz.prog (env V []) 201 ⟨sigurl_letter_, url_letter_ V⟩ := by
  rw [← rawurl_letter_ V]
  exact aFn_sound (E2 := env V []) (envOK V hV (callsurl_letter_ V) (by kernel_rfl) (calls_nil rfl)) rfl rfl rfl Tryz.func201
theorem soundurl_digit_ (V : Ev) (hV : V.OK) : CallSound Tryz.prog (env V []) 203 ⟨sigurl_digit_, url_digit_ V⟩ := by
  rw [← rawurl_digit_ V]
  exact aFn_sound (E2 := env V []) (envOK V hV (callsurl_digit_ V) (by kernel_rfl) (calls_nil rfl)) rfl rfl rfl Tryz.func203
theorem soundurl_scheme_1_ (V : Ev) (hV : V.OK) : CallSound Tryz.prog (env V []) 202 ⟨sigurl_scheme_1_, url_scheme_1_ V⟩ := by
  rw [← rawurl_scheme_1_ V]
  exact aFn_sound (E2 := env V []) (envOK V hV (callsurl_scheme_1_ V) (by kernel_rfl) (calls_cons ((cs_cons (soundurl_letter_ V hV) cs_nil)) (calls_cons ((cs_cons (soundurl_digit_ V hV) cs_nil)) (calls_nil rfl)))) rfl rfl rfl Tryz.func202
theorem soundurl_all_16d (V : Ev) (hV : V.OK) : CallSound Tryz.prog (env V []) 153 ⟨sigurl_all_16d, url_all_16d V⟩ := by
  rw [← rawurl_all_16d V]
  exact aFn_sound (E2 := env V []) (envOK V hV (callsurl_all_16d V) (by kernel_rfl) (calls_cons ((cs_cons (soundurl_scheme_1_ V hV) cs_nil)) (calls_nil rfl))) rfl rfl rfl Tryz.func153
theorem soundurl_scheme_ (V : Ev) (hV : V.OK) : CallSound Tryz.prog (env V []) 152 ⟨sigurl_scheme_, url_scheme_ V⟩ := by
  rw [← rawurl_scheme_ V]
  exact aFn_sound (E2 := env V []) (envOK V hV (callsurl_scheme_ V) (by kernel_rfl) (calls_cons ((cs_cons (soundurl_all_16d V hV) cs_nil)) (calls_cons ((cs_cons (soundurl_letter_ V hV) cs_nil)) (calls_nil rfl)))) rfl rfl rfl Tryz.func152
theorem soundfold_Trim_ (V : Ev) (hV : V.OK) : CallSound Tryz.prog (env V []) 107 ⟨sigfold_Trim_, fold_Trim_ V⟩ := by
  rw [← rawfold_Trim_ V]
  exact aFn_sound (E2 := env V []) (envOK V hV (callsfold_Trim_ V) (by kernel_rfl) (calls_cons ((cs_cons (soundstrings_Trim_ V) cs_nil)) (calls_nil rfl))) rfl rfl rfl Tryz.func107
theorem soundurl_Check_1_ (V : Ev) (hV : V.OK) : CallSound Tryz.prog (env V []) 154 ⟨sigurl_Check_1_, url_Check_1_ V⟩ := by
  rw [← rawurl_Check_1_ V]
  exact aFn_sound (E2 := env V []) (envOK V hV (callsurl_Check_1_ V) (by kernel_rfl) (calls_nil rfl)) rfl rfl rfl Tryz.func154
theorem soundurl_all_890 (V : Ev) (hV : V.OK) : CallSound Tryz.prog (env V []) 153 ⟨sigurl_all_890, url_all_890 V⟩ := by
  rw [← rawurl_all_890 V]
  exact aFn_sound (E2 := env V []) (envOK V hV (callsurl_all_890 V) (by kernel_rfl) (calls_cons ((cs_cons (soundurl_Check_1_ V hV) cs_nil)) (calls_nil rfl))) rfl rfl rfl Tryz.func153
theorem soundurl_host_1_ (V : Ev) (hV : V.OK) : CallSound Tryz.prog (env V []) 204 ⟨sigurl_host_1_, url_host_1_ V⟩ := by
  rw [← rawurl_host_1_ V]
  exact aFn_sound (E2 := env V []) (envOK V hV (callsurl_host_1_ V) (by kernel_rfl) (calls_cons ((cs_cons (soundurl_letter_ V hV) cs_nil)) (calls_cons ((cs_cons (soundurl_digit_ V hV) cs_nil)) (calls_nil rfl)))) rfl rfl rfl Tryz.func204
theorem soundurl_all_70b (V : Ev) (hV : V.OK) : CallSound Tryz.prog (env V []) 153 ⟨sigurl_all_70b, url_all_70b V⟩ := by
  rw [← rawurl_all_70b V]
  exact aFn_sound (E2 := env V []) (envOK V hV (callsurl_all_70b V) (by kernel_rfl) (calls_cons ((cs_cons (soundurl_host_1_ V hV) cs_nil)) (calls_nil rfl))) rfl rfl rfl Tryz.func153
theorem soundstrings_Index_ (V : Ev) (hV : V.OK) : CallSound Tryz.prog (env V []) 238 ⟨sigstrings_Index_, strings_Index_ V⟩ := by
  rw [← rawstrings_Index_ V]
  exact aFn_sound (E2 := env V []) (envOK V hV (callsstrings_Index_ V) (by kernel_rfl) (calls_cons ((cs_cons (soundistringslite_Index_ V) cs_nil)) (calls_nil rfl))) rfl rfl rfl Tryz.func238
theorem soundstrings_Contains_ (V : Ev) (hV : V.OK) : CallSound Tryz.prog (env V []) 205 ⟨sigstrings_Contains_, strings_Contains_ V⟩ := by
  rw [← rawstrings_Contains_ V]
  exact aFn_sound (E2 := env V []) (envOK V hV (callsstrings_Contains_ V) (by kernel_rfl) (calls_cons ((cs_cons (soundstrings_Index_ V hV) cs_nil)) (calls_nil rfl))) rfl rfl rfl Tryz.func205
theorem soundurl_host_ (V : Ev) (hV : V.OK) : CallSound Tryz.prog (env V []) 155 ⟨sigurl_host_, url_host_ V⟩ := by
  rw [← rawurl_host_ V]
  exact aFn_sound (E2 := env V []) (envOK V hV (callsurl_host_ V) (by kernel_rfl) (calls_cons ((cs_cons (soundurl_all_70b V hV) cs_nil)) (calls_cons ((cs_cons (soundstrings_Contains_ V hV) cs_nil)) (calls_nil rfl)))) rfl rfl rfl Tryz.func155
theorem soundurl_byteOf_ (V : Ev) (hV : V.OK) : CallSound Tryz.prog (env V []) 156 ⟨sigurl_byteOf_, url_byteOf_ V⟩ := by
  rw [← rawurl_byteOf_ V]
  exact aFn_sound (E2 := env V []) (envOK V hV (callsurl_byteOf_ V) (by kernel_rfl) (calls_nil rfl)) rfl rfl rfl Tryz.func156
theorem soundurl_all_315 (V : Ev) (hV : V.OK) : CallSound Tryz.prog (env V []) 153 ⟨sigurl_all_315, url_all_315 V⟩ := by
  rw [← rawurl_all_315 V]
  exact aFn_sound (E2 := env V []) (envOK V hV (callsurl_all_315 V) (by kernel_rfl) (calls_cons ((cs_cons (soundurl_byteOf_ V hV) cs_nil)) (calls_nil rfl))) rfl rfl rfl Tryz.func153
theorem soundstrings_Count_ (V : Ev) : CallSound Tryz.prog (env V []) 257 ⟨sigstrings_Count_, strings_Count_ V⟩ := given_count layCount
theorem soundstrings_genSplit_ (V : Ev) (hV : V.OK) : CallSound Tryz.prog (env V []) 239 ⟨sigstrings_genSplit_, strings_genSplit_ V⟩ := by
  rw [← rawstrings_genSplit_ V]
  exact aFn_sound (E2 := env V []) (envOK V hV (callsstrings_genSplit_ V) (by kernel_rfl) (calls_cons ((cs_cons (soundstrings_Index_ V hV) cs_nil)) (calls_cons ((cs_cons (soundstrings_Count_ V) cs_nil)) (calls_nil rfl)))) rfl rfl rfl Tryz.func239
theorem soundstrings_Split_ (V : Ev) (hV : V.OK) : CallSound Tryz.prog (env V []) 206 ⟨sigstrings_Split_, strings_Split_ V⟩ := by
  rw [← rawstrings_Split_ V]
  exact aFn_sound (E2 := env V []) (envOK V hV (callsstrings_Split_ V) (by kernel_rfl) (calls_cons ((cs_cons (soundstrings_genSplit_ V hV) cs_nil)) (calls_nil rfl))) rfl rfl rfl Tryz.func206
theorem soundstrings_Join_ (V : Ev) : CallSound Tryz.prog (env V []) 207 ⟨sigstrings_Join_, strings_Join_ V⟩ := given_join layJoin laysE
theorem soundurl_Clean_ (V : Ev) (hV : V.OK) : CallSound Tryz.prog (env V []) 157 ⟨sigurl_Clean_, url_Clean_ V⟩ := by
  rw [← rawurl_Clean_ V]
  exact aFn_sound (E2 := env V []) (envOK V hV (callsurl_Clean_ V) (by kernel_rfl) (calls_cons ((cs_cons (soundstrings_HasPrefix_ V hV) cs_nil)) (calls_cons ((cs_cons (soundstrings_Split_ V hV) cs_nil)) (calls_cons ((cs_cons (soundstrings_Join_ V) cs_nil)) (calls_nil rfl))))) rfl rfl rfl Tryz.func157
theorem soundurl_Check_2_ (V : Ev) (hV : V.OK) : CallSound Tryz.prog (env V []) 158 ⟨sigurl_Check_2_, url_Check_2_ V⟩ := by
  rw [← rawurl_Check_2_ V]
  exact aFn_sound (E2 := env V []) (envOK V hV (callsurl_Check_2_ V) (by kernel_rfl) (calls_cons ((cs_cons (soundurl_byteOf_ V hV) cs_nil)) (calls_nil rfl))) rfl rfl rfl Tryz.func158
theorem soundurl_all_af7 (V : Ev) (hV : V.OK) : CallSound Tryz.prog (env V []) 153 ⟨sigurl_all_af7, url_all_af7 V⟩ := by
  rw [← rawurl_all_af7 V]
  exact aFn_sound (E2 := env V []) (envOK V hV (callsurl_all_af7 V) (by kernel_rfl) (calls_cons ((cs_cons (soundurl_Check_2_ V hV) cs_nil)) (calls_nil rfl))) rfl rfl rfl Tryz.func153
theorem soundurl_text_ (V : Ev) (hV : V.OK) : CallSound Tryz.prog (env V []) 159 ⟨sigurl_text_, url_text_ V⟩ := by
  rw [← rawurl_text_ V]
  exact aFn_sound (E2 := env V []) (envOK V hV (callsurl_text_ V) (by kernel_rfl) (calls_cons ((cs_cons (soundstrconv_Itoa_ V hV) cs_nil)) (calls_nil rfl))) rfl rfl rfl Tryz.func159
theorem soundurl_Check_ (V : Ev) (hV : V.OK) : CallSound Tryz.prog (env V []) 117 ⟨sigurl_Check_, url_Check_ V⟩ := by
  rw [← rawurl_Check_ V]
  exact aFn_sound (E2 := env V []) (envOK V hV (callsurl_Check_ V) (by kernel_rfl) (calls_cons ((cs_cons (soundfold_Trim_ V hV) cs_nil)) (calls_cons ((cs_cons (soundurl_Default_ V hV) cs_nil)) (calls_cons ((cs_cons (soundurl_scheme_ V hV) cs_nil)) (calls_cons ((cs_cons (soundurl_all_890 V hV) (cs_cons (soundurl_all_315 V hV) (cs_cons (soundurl_all_af7 V hV) cs_nil)))) (calls_cons ((cs_cons (soundurl_host_ V hV) cs_nil)) (calls_cons ((cs_cons (soundurl_Clean_ V hV) cs_nil)) (calls_cons ((cs_cons (soundurl_text_ V hV) cs_nil)) (calls_nil rfl))))))))) rfl rfl rfl Tryz.func117
theorem soundsource_scheme_ (V : Ev) (hV : V.OK) : CallSound Tryz.prog (env V []) 75 ⟨sigsource_scheme_, source_scheme_ V⟩ := by
  rw [← rawsource_scheme_ V]
  exact aFn_sound (E2 := env V []) (envOK V hV (callssource_scheme_ V) (by kernel_rfl) (calls_cons ((cs_cons (soundurl_Default_ V hV) cs_nil)) (calls_cons ((cs_cons (soundurl_Check_ V hV) cs_nil)) (calls_nil rfl)))) rfl rfl rfl Tryz.func75
theorem soundsource_host_ (V : Ev) (hV : V.OK) : CallSound Tryz.prog (env V []) 76 ⟨sigsource_host_, source_host_ V⟩ := by
  rw [← rawsource_host_ V]
  exact aFn_sound (E2 := env V []) (envOK V hV (callssource_host_ V) (by kernel_rfl) (calls_cons ((cs_cons (soundurl_Check_ V hV) cs_nil)) (calls_nil rfl))) rfl rfl rfl Tryz.func76
theorem soundsource_path_ (V : Ev) (hV : V.OK) : CallSound Tryz.prog (env V []) 77 ⟨sigsource_path_, source_path_ V⟩ := by
  rw [← rawsource_path_ V]
  exact aFn_sound (E2 := env V []) (envOK V hV (callssource_path_ V) (by kernel_rfl) (calls_cons ((cs_cons (soundstrings_IndexByte_ V hV) cs_nil)) (calls_nil rfl))) rfl rfl rfl Tryz.func77
theorem soundsource_right_ (V : Ev) (hV : V.OK) : CallSound Tryz.prog (env V []) 52 ⟨sigsource_right_, source_right_ V⟩ := by
  rw [← rawsource_right_ V]
  exact aFn_sound (E2 := env V []) (envOK V hV (callssource_right_ V) (by kernel_rfl) (calls_cons ((cs_cons (soundbase_Form_ V hV) cs_nil)) (calls_cons ((cs_cons (soundsource_scheme_ V hV) cs_nil)) (calls_cons ((cs_cons (soundsource_host_ V hV) cs_nil)) (calls_cons ((cs_cons (soundsource_path_ V hV) cs_nil)) (calls_nil rfl)))))) rfl rfl rfl Tryz.func52
theorem soundsource_Parse_ (V : Ev) (hV : V.OK) : CallSound Tryz.prog (env V []) 24 ⟨sigsource_Parse_, source_Parse_ V⟩ := by
  rw [← rawsource_Parse_ V]
  exact aFn_sound (E2 := env V []) (envOK V hV (callssource_Parse_ V) (by kernel_rfl) (calls_cons ((cs_cons (soundfold_Lower_ V hV) cs_nil)) (calls_cons ((cs_cons (soundsource_right_ V hV) cs_nil)) (calls_cons ((cs_cons (soundsource_cutter_quoted_2b7 V hV) cs_nil)) (calls_cons ((cs_cons (soundsource_cutter_host_2b7 V hV) cs_nil)) (calls_nil rfl)))))) rfl rfl rfl Tryz.func24
theorem soundstrings_Builder_copyCheck_476 (V : Ev) : CallSound Tryz.prog (env V []) 71 ⟨sigstrings_Builder_copyCheck_476, strings_Builder_copyCheck_476 V⟩ :=
  copyCheck_sound (fun b w h0 h1 h2 => Any.Builder_copyCheck_fresh lays laysX b w h0 h1 h2) (fun b w h0 => Any.Builder_copyCheck_used lays laysX b w h0) ⟨.inl rfl, .inr (.inl rfl)⟩ (fun t u h ren => by cases h; rfl)
theorem soundstrings_Builder_copyCheck_20a (V : Ev) : CallSound Tryz.prog (env V []) 71 ⟨sigstrings_Builder_copyCheck_20a, strings_Builder_copyCheck_20a V⟩ :=
  copyCheck_sound (fun b w h0 h1 h2 => Any.Builder_copyCheck_fresh lays laysX b w h0 h1 h2) (fun b w h0 => Any.Builder_copyCheck_used lays laysX b w h0) ⟨.inl rfl, .inl rfl⟩ (fun t u h ren => by cases h; rfl)
theorem soundstrings_Builder_WriteByte_a04 (V : Ev) (hV : V.OK) : CallSound Tryz.prog (env V []) 46 ⟨sigstrings_Builder_WriteByte_a04, strings_Builder_WriteByte_a04 V⟩ := by
  rw [← rawstrings_Builder_WriteByte_a04 V]
  exact aFn_sound (E2 := env V []) (envOK V hV (callsstrings_Builder_WriteByte_a04 V) (by kernel_rfl) (calls_cons ((cs_cons (soundstrings_Builder_copyCheck_20a V) cs_nil)) (calls_nil rfl))) rfl rfl rfl Tryz.func46
theorem soundstrings_Builder_String_20a (V : Ev) (hV : V.OK) : CallSound Tryz.prog (env V []) 47 ⟨sigstrings_Builder_String_20a, strings_Builder_String_20a V⟩ := by
  rw [← rawstrings_Builder_String_20a V]
  exact aFn_sound (E2 := env V []) (envOK V hV (callsstrings_Builder_String_20a V) (by kernel_rfl) (calls_nil rfl)) rfl rfl rfl Tryz.func47
theorem soundbase_Encode_ (V : Ev) (hV : V.OK) : CallSound Tryz.prog (env V []) 16 ⟨sigbase_Encode_, base_Encode_ V⟩ := by
  rw [← rawbase_Encode_ V]
  exact aFn_sound (E2 := env V []) (envOK V hV (callsbase_Encode_ V) (by kernel_rfl) (calls_cons ((cs_cons (soundstrings_Builder_WriteByte_a04 V hV) cs_nil)) (calls_cons ((cs_cons (soundstrings_Builder_String_20a V hV) cs_nil)) (calls_nil rfl)))) rfl rfl rfl Tryz.func16
theorem soundstrings_Builder_WriteString_d1d (V : Ev) (hV : V.OK) : CallSound Tryz.prog (env V []) 78 ⟨sigstrings_Builder_WriteString_d1d, strings_Builder_WriteString_d1d V⟩ := by
  rw [← rawstrings_Builder_WriteString_d1d V]
  exact aFn_sound (E2 := env V []) (envOK V hV (callsstrings_Builder_WriteString_d1d V) (by kernel_rfl) (calls_cons ((cs_cons (soundstrings_Builder_copyCheck_476 V) cs_nil)) (calls_nil rfl))) rfl rfl rfl Tryz.func78
theorem soundstrings_Builder_WriteString_cc3 (V : Ev) (hV : V.OK) : CallSound Tryz.prog (env V []) 78 ⟨sigstrings_Builder_WriteString_cc3, strings_Builder_WriteString_cc3 V⟩ := by
  rw [← rawstrings_Builder_WriteString_cc3 V]
  exact aFn_sound (E2 := env V []) (envOK V hV (callsstrings_Builder_WriteString_cc3 V) (by kernel_rfl) (calls_cons ((cs_cons (soundstrings_Builder_copyCheck_20a V) cs_nil)) (calls_nil rfl))) rfl rfl rfl Tryz.func78
theorem soundsource_printed_ (V : Ev) (hV : V.OK) : CallSound Tryz.prog (env V []) 53 ⟨sigsource_printed_, source_printed_ V⟩ := by
  rw [← rawsource_printed_ V]
  exact aFn_sound (E2 := env V []) (envOK V hV (callssource_printed_ V) (by kernel_rfl) (calls_cons ((cs_cons (soundstrings_Builder_String_20a V hV) cs_nil)) (calls_cons ((cs_cons (soundstrings_Builder_WriteString_d1d V hV) (cs_cons (soundstrings_Builder_WriteString_cc3 V hV) cs_nil))) (calls_cons ((cs_cons (soundstrconv_Itoa_ V hV) cs_nil)) (calls_nil rfl))))) rfl rfl rfl Tryz.func53
theorem soundsource_Print_ (V : Ev) (hV : V.OK) : CallSound Tryz.prog (env V []) 21 ⟨sigsource_Print_, source_Print_ V⟩ := by
  rw [← rawsource_Print_ V]
  exact aFn_sound (E2 := env V []) (envOK V hV (callssource_Print_ V) (by kernel_rfl) (calls_cons ((cs_cons (soundbase_Encode_ V hV) cs_nil)) (calls_cons ((cs_cons (soundsource_right_ V hV) cs_nil)) (calls_cons ((cs_cons (soundsource_printed_ V hV) cs_nil)) (calls_nil rfl))))) rfl rfl rfl Tryz.func21
theorem soundsource_List_ (V : Ev) (hV : V.OK) : CallSound Tryz.prog (env V []) 27 ⟨sigsource_List_, source_List_ V⟩ := by
  rw [← rawsource_List_ V]
  exact aFn_sound (E2 := env V []) (envOK V hV (callssource_List_ V) (by kernel_rfl) (calls_cons ((cs_cons (soundsource_Parse_ V hV) cs_nil)) (calls_nil rfl))) rfl rfl rfl Tryz.func27
theorem soundpouncelaw09_words_ (V : Ev) (hV : V.OK) : CallSound Tryz.prog (env V []) 23 ⟨sigpouncelaw09_words_, pouncelaw09_words_ V⟩ := by
  rw [← rawpouncelaw09_words_ V]
  exact aFn_sound (E2 := env V []) (envOK V hV (callspouncelaw09_words_ V) (by kernel_rfl) (calls_cons ((cs_cons (soundsource_Print_ V hV) cs_nil)) (calls_cons ((cs_cons (soundsource_Parse_ V hV) cs_nil)) (calls_cons ((cs_cons (soundsource_List_ V hV) cs_nil)) (calls_nil rfl))))) rfl rfl rfl Tryz.func23
theorem soundpounceref09_Big_ (V : Ev) (hV : V.OK) : CallSound Tryz.prog (env V []) 20 ⟨sigpounceref09_Big_, pounceref09_Big_ V⟩ := by
  rw [← rawpounceref09_Big_ V]
  exact aFn_sound (E2 := env V []) (envOK V hV (callspounceref09_Big_ V) (by kernel_rfl) (calls_nil rfl)) rfl rfl rfl Tryz.func20
theorem soundpounceref04_head_ (V : Ev) (hV : V.OK) : CallSound Tryz.prog (env V []) 119 ⟨sigpounceref04_head_, pounceref04_head_ V⟩ := by
  rw [← rawpounceref04_head_ V]
  exact aFn_sound (E2 := env V []) (envOK V hV (callspounceref04_head_ V) (by kernel_rfl) (calls_nil rfl)) rfl rfl rfl Tryz.func119
theorem soundpounceref04_value_ (V : Ev) (hV : V.OK) : CallSound Tryz.prog (env V []) 120 ⟨sigpounceref04_value_, pounceref04_value_ V⟩ := by
  rw [← rawpounceref04_value_ V]
  exact aFn_sound (E2 := env V []) (envOK V hV (callspounceref04_value_ V) (by kernel_rfl) (calls_nil rfl)) rfl rfl rfl Tryz.func120
theorem soundpounceref04_Form_ (V : Ev) (hV : V.OK) : CallSound Tryz.prog (env V []) 80 ⟨sigpounceref04_Form_, pounceref04_Form_ V⟩ := by
  rw [← rawpounceref04_Form_ V]
  exact aFn_sound (E2 := env V []) (envOK V hV (callspounceref04_Form_ V) (by kernel_rfl) (calls_cons ((cs_cons (soundpounceref04_head_ V hV) cs_nil)) (calls_cons ((cs_cons (soundpounceref04_value_ V hV) cs_nil)) (calls_nil rfl)))) rfl rfl rfl Tryz.func80
theorem soundpounceref05_letter_ (V : Ev) (hV : V.OK) : CallSound Tryz.prog (env V []) 121 ⟨sigpounceref05_letter_, pounceref05_letter_ V⟩ := by
  rw [← rawpounceref05_letter_ V]
  exact aFn_sound (E2 := env V []) (envOK V hV (callspounceref05_letter_ V) (by kernel_rfl) (calls_nil rfl)) rfl rfl rfl Tryz.func121
theorem soundpounceref05_digit_ (V : Ev) (hV : V.OK) : CallSound Tryz.prog (env V []) 122 ⟨sigpounceref05_digit_, pounceref05_digit_ V⟩ := by
  rw [← rawpounceref05_digit_ V]
  exact aFn_sound (E2 := env V []) (envOK V hV (callspounceref05_digit_ V) (by kernel_rfl) (calls_nil rfl)) rfl rfl rfl Tryz.func122
theorem soundpounceref05_Scheme_ (V : Ev) (hV : V.OK) : CallSound Tryz.prog (env V []) 81 ⟨sigpounceref05_Scheme_, pounceref05_Scheme_ V⟩ := by
  rw [← rawpounceref05_Scheme_ V]
  exact aFn_sound (E2 := env V []) (envOK V hV (callspounceref05_Scheme_ V) (by kernel_rfl) (calls_cons ((cs_cons (soundpounceref05_letter_ V hV) cs_nil)) (calls_cons ((cs_cons (soundpounceref05_digit_ V hV) cs_nil)) (calls_nil rfl)))) rfl rfl rfl Tryz.func81
theorem soundpounceref05_Host_ (V : Ev) (hV : V.OK) : CallSound Tryz.prog (env V []) 123 ⟨sigpounceref05_Host_, pounceref05_Host_ V⟩ := by
  rw [← rawpounceref05_Host_ V]
  exact aFn_sound (E2 := env V []) (envOK V hV (callspounceref05_Host_ V) (by kernel_rfl) (calls_cons ((cs_cons (soundpounceref05_letter_ V hV) cs_nil)) (calls_cons ((cs_cons (soundpounceref05_digit_ V hV) cs_nil)) (calls_nil rfl)))) rfl rfl rfl Tryz.func123
theorem soundpounceref09_path_ (V : Ev) (hV : V.OK) : CallSound Tryz.prog (env V []) 124 ⟨sigpounceref09_path_, pounceref09_path_ V⟩ := by
  rw [← rawpounceref09_path_ V]
  exact aFn_sound (E2 := env V []) (envOK V hV (callspounceref09_path_ V) (by kernel_rfl) (calls_nil rfl)) rfl rfl rfl Tryz.func124
theorem soundpounceref09_host_ (V : Ev) (hV : V.OK) : CallSound Tryz.prog (env V []) 82 ⟨sigpounceref09_host_, pounceref09_host_ V⟩ := by
  rw [← rawpounceref09_host_ V]
  exact aFn_sound (E2 := env V []) (envOK V hV (callspounceref09_host_ V) (by kernel_rfl) (calls_cons ((cs_cons (soundpounceref05_Scheme_ V hV) cs_nil)) (calls_cons ((cs_cons (soundpounceref05_Host_ V hV) cs_nil)) (calls_cons ((cs_cons (soundpounceref09_path_ V hV) cs_nil)) (calls_nil rfl))))) rfl rfl rfl Tryz.func82
theorem soundpounceref09_Kept_ (V : Ev) (hV : V.OK) : CallSound Tryz.prog (env V []) 83 ⟨sigpounceref09_Kept_, pounceref09_Kept_ V⟩ := by
  rw [← rawpounceref09_Kept_ V]
  exact aFn_sound (E2 := env V []) (envOK V hV (callspounceref09_Kept_ V) (by kernel_rfl) (calls_nil rfl)) rfl rfl rfl Tryz.func83
theorem soundpounceref09_Right_ (V : Ev) (hV : V.OK) : CallSound Tryz.prog (env V []) 54 ⟨sigpounceref09_Right_, pounceref09_Right_ V⟩ := by
  rw [← rawpounceref09_Right_ V]
  exact aFn_sound (E2 := env V []) (envOK V hV (callspounceref09_Right_ V) (by kernel_rfl) (calls_cons ((cs_cons (soundpounceref04_Form_ V hV) cs_nil)) (calls_cons ((cs_cons (soundpounceref05_Scheme_ V hV) cs_nil)) (calls_cons ((cs_cons (soundpounceref09_host_ V hV) cs_nil)) (calls_cons ((cs_cons (soundpounceref09_Kept_ V hV) cs_nil)) (calls_nil rfl)))))) rfl rfl rfl Tryz.func54
theorem soundpounceref04_bits_ (V : Ev) (hV : V.OK) : CallSound Tryz.prog (env V []) 125 ⟨sigpounceref04_bits_, pounceref04_bits_ V⟩ := by
  rw [← rawpounceref04_bits_ V]
  exact aFn_sound (E2 := env V []) (envOK V hV (callspounceref04_bits_ V) (by kernel_rfl) (calls_nil rfl)) rfl rfl rfl Tryz.func125
theorem soundpounceref04_number_ (V : Ev) (hV : V.OK) : CallSound Tryz.prog (env V []) 126 ⟨sigpounceref04_number_, pounceref04_number_ V⟩ := by
  rw [← rawpounceref04_number_ V]
  exact aFn_sound (E2 := env V []) (envOK V hV (callspounceref04_number_ V) (by kernel_rfl) (calls_nil rfl)) rfl rfl rfl Tryz.func126
theorem soundpounceref04_Encode_ (V : Ev) (hV : V.OK) : CallSound Tryz.prog (env V []) 84 ⟨sigpounceref04_Encode_, pounceref04_Encode_ V⟩ := by
  rw [← rawpounceref04_Encode_ V]
  exact aFn_sound (E2 := env V []) (envOK V hV (callspounceref04_Encode_ V) (by kernel_rfl) (calls_cons ((cs_cons (soundpounceref04_bits_ V hV) cs_nil)) (calls_cons ((cs_cons (soundpounceref04_number_ V hV) cs_nil)) (calls_nil rfl)))) rfl rfl rfl Tryz.func84
theorem soundpounceref05_Digits_B (V : Ev) (hV : V.OK) (self : (sigpounceref05_Digits_).In → Option (sigpounceref05_Digits_).Out) (h : CallSound Tryz.prog (env V []) 85 ⟨sigpounceref05_Digits_, self⟩) : CallSound Tryz.prog (env V []) 85 ⟨sigpounceref05_Digits_, pounceref05_Digits_B V self⟩ := by
  rw [← rawpounceref05_Digits_ V self]
  exact aFn_sound (E2 := env V []) (envOK V hV (callspounceref05_Digits_ V self) (by kernel_rfl) (calls_cons ((cs_cons h cs_nil)) (calls_nil rfl))) rfl rfl rfl Tryz.func85
theorem soundpounceref05_Digits_N (V : Ev) (hV : V.OK) : ∀ m, CallSound Tryz.prog (env V []) 85 ⟨sigpounceref05_Digits_, pounceref05_Digits_N V m⟩
  | 0 => CallSound.none
  | m + 1 => soundpounceref05_Digits_B V hV _ (soundpounceref05_Digits_N V hV m)
theorem soundpounceref05_Digits_ (V : Ev) (hV : V.OK) : CallSound Tryz.prog (env V []) 85 ⟨sigpounceref05_Digits_, pounceref05_Digits_ V⟩ := CallSound.rc hV (soundpounceref05_Digits_N V hV)
theorem soundpounceref09_Word_ (V : Ev) (hV : V.OK) : CallSound Tryz.prog (env V []) 55 ⟨sigpounceref09_Word_, pounceref09_Word_ V⟩ := by
  rw [← rawpounceref09_Word_ V]
  exact aFn_sound (E2 := env V []) (envOK V hV (callspounceref09_Word_ V) (by kernel_rfl) (calls_cons ((cs_cons (soundpounceref09_Kept_ V hV) cs_nil)) (calls_cons ((cs_cons (soundpounceref04_Encode_ V hV) cs_nil)) (calls_cons ((cs_cons (soundpounceref05_Digits_ V hV) cs_nil)) (calls_nil rfl))))) rfl rfl rfl Tryz.func55
theorem soundpounceref09_Print_ (V : Ev) (hV : V.OK) : CallSound Tryz.prog (env V []) 22 ⟨sigpounceref09_Print_, pounceref09_Print_ V⟩ := by
  rw [← rawpounceref09_Print_ V]
  exact aFn_sound (E2 := env V []) (envOK V hV (callspounceref09_Print_ V) (by kernel_rfl) (calls_cons ((cs_cons (soundpounceref09_Right_ V hV) cs_nil)) (calls_cons ((cs_cons (soundpounceref09_Word_ V hV) cs_nil)) (calls_nil rfl)))) rfl rfl rfl Tryz.func22
theorem soundpouncelaw09_SourcePrints_ (V : Ev) (hV : V.OK) : CallSound Tryz.prog (env V []) 4 ⟨sigpouncelaw09_SourcePrints_, pouncelaw09_SourcePrints_ V⟩ := by
  rw [← rawpouncelaw09_SourcePrints_ V]
  exact aFn_sound (E2 := env V []) (envOK V hV (callspouncelaw09_SourcePrints_ V) (by kernel_rfl) (calls_cons ((cs_cons (soundpounceref09_Big_ V hV) cs_nil)) (calls_cons ((cs_cons (soundsource_Print_ V hV) cs_nil)) (calls_cons ((cs_cons (soundpounceref09_Print_ V hV) cs_nil)) (calls_cons ((cs_cons (soundpouncelaw09_words_ V hV) cs_nil)) (calls_nil rfl)))))) rfl rfl rfl Tryz.func4
theorem soundpouncelaw09_SourceLetters_ (V : Ev) (hV : V.OK) : CallSound Tryz.prog (env V []) 5 ⟨sigpouncelaw09_SourceLetters_, pouncelaw09_SourceLetters_ V⟩ := by
  rw [← rawpouncelaw09_SourceLetters_ V]
  exact aFn_sound (E2 := env V []) (envOK V hV (callspouncelaw09_SourceLetters_ V) (by kernel_rfl) (calls_cons ((cs_cons (soundpouncelaw09_words_ V hV) cs_nil)) (calls_cons ((cs_cons (soundsource_Parse_ V hV) cs_nil)) (calls_cons ((cs_cons (soundfold_Lower_ V hV) cs_nil)) (calls_nil rfl))))) rfl rfl rfl Tryz.func5
theorem soundpounceref02_Big_ (V : Ev) (hV : V.OK) : CallSound Tryz.prog (env V []) 26 ⟨sigpounceref02_Big_, pounceref02_Big_ V⟩ := by
  rw [← rawpounceref02_Big_ V]
  exact aFn_sound (E2 := env V []) (envOK V hV (callspounceref02_Big_ V) (by kernel_rfl) (calls_nil rfl)) rfl rfl rfl Tryz.func26
theorem soundpounceref09_Same_ (V : Ev) (hV : V.OK) : CallSound Tryz.prog (env V []) 28 ⟨sigpounceref09_Same_, pounceref09_Same_ V⟩ := by
  rw [← rawpounceref09_Same_ V]
  exact aFn_sound (E2 := env V []) (envOK V hV (callspounceref09_Same_ V) (by kernel_rfl) (calls_nil rfl)) rfl rfl rfl Tryz.func28
theorem soundpouncelaw09_SourceEach_ (V : Ev) (hV : V.OK) : CallSound Tryz.prog (env V []) 6 ⟨sigpouncelaw09_SourceEach_, pouncelaw09_SourceEach_ V⟩ := by
  rw [← rawpouncelaw09_SourceEach_ V]
  exact aFn_sound (E2 := env V []) (envOK V hV (callspouncelaw09_SourceEach_ V) (by kernel_rfl) (calls_cons ((cs_cons (soundsource_Print_ V hV) cs_nil)) (calls_cons ((cs_cons (soundpouncelaw09_words_ V hV) cs_nil)) (calls_cons ((cs_cons (soundsource_Parse_ V hV) cs_nil)) (calls_cons ((cs_cons (soundpounceref02_Big_ V hV) cs_nil)) (calls_cons ((cs_cons (soundsource_List_ V hV) cs_nil)) (calls_cons ((cs_cons (soundpounceref09_Same_ V hV) cs_nil)) (calls_nil rfl)))))))) rfl rfl rfl Tryz.func6
theorem soundpouncelaw09_SourceKept_ (V : Ev) (hV : V.OK) : CallSound Tryz.prog (env V []) 7 ⟨sigpouncelaw09_SourceKept_, pouncelaw09_SourceKept_ V⟩ := by
  rw [← rawpouncelaw09_SourceKept_ V]
  exact aFn_sound (E2 := env V []) (envOK V hV (callspouncelaw09_SourceKept_ V) (by kernel_rfl) (calls_cons ((cs_cons (soundsource_Print_ V hV) cs_nil)) (calls_cons ((cs_cons (soundpouncelaw09_words_ V hV) cs_nil)) (calls_cons ((cs_cons (soundsource_Parse_ V hV) cs_nil)) (calls_nil rfl))))) rfl rfl rfl Tryz.func7
theorem soundmark_New_775 (V : Ev) (hV : V.OK) : CallSound Tryz.prog (env V []) 48 ⟨sigmark_New_775, mark_New_775 V⟩ := by
  rw [← rawmark_New_775 V]
  exact aFn_sound (E2 := env V []) (envOK V hV (callsmark_New_775 V) (by kernel_rfl) (calls_nil rfl)) rfl rfl rfl Tryz.func48
theorem soundmark_Maker_Add_f92 (V : Ev) (hV : V.OK) : CallSound Tryz.prog (env V []) 49 ⟨sigmark_Maker_Add_f92, mark_Maker_Add_f92 V⟩ := by
  rw [← rawmark_Maker_Add_f92 V]
  exact aFn_sound (E2 := env V []) (envOK V hV (callsmark_Maker_Add_f92 V) (by kernel_rfl) (calls_nil rfl)) rfl rfl rfl Tryz.func49
theorem soundmark_Maker_Mark_def (V : Ev) (hV : V.OK) : CallSound Tryz.prog (env V []) 50 ⟨sigmark_Maker_Mark_def, mark_Maker_Mark_def V⟩ := by
  rw [← rawmark_Maker_Mark_def V]
  exact aFn_sound (E2 := env V []) (envOK V hV (callsmark_Maker_Mark_def V) (by kernel_rfl) (calls_nil rfl)) rfl rfl rfl Tryz.func50
theorem soundmark_Of_ (V : Ev) (hV : V.OK) : CallSound Tryz.prog (env V []) 17 ⟨sigmark_Of_, mark_Of_ V⟩ := by
  rw [← rawmark_Of_ V]
  exact aFn_sound (E2 := env V []) (envOK V hV (callsmark_Of_ V) (by kernel_rfl) (calls_cons ((cs_cons (soundmark_New_775 V hV) cs_nil)) (calls_cons ((cs_cons (soundmark_Maker_Add_f92 V hV) cs_nil)) (calls_cons ((cs_cons (soundmark_Maker_Mark_def V hV) cs_nil)) (calls_nil rfl))))) rfl rfl rfl Tryz.func17
theorem soundpouncelaw09_SourceMarks_ (V : Ev) (hV : V.OK) : CallSound Tryz.prog (env V []) 8 ⟨sigpouncelaw09_SourceMarks_, pouncelaw09_SourceMarks_ V⟩ := by
  rw [← rawpouncelaw09_SourceMarks_ V]
  exact aFn_sound (E2 := env V []) (envOK V hV (callspouncelaw09_SourceMarks_ V) (by kernel_rfl) (calls_cons ((cs_cons (soundbase_Encode_ V hV) cs_nil)) (calls_cons ((cs_cons (soundmark_Of_ V hV) cs_nil)) (calls_cons ((cs_cons (soundpouncelaw09_words_ V hV) cs_nil)) (calls_cons ((cs_cons (soundsource_Parse_ V hV) cs_nil)) (calls_nil rfl)))))) rfl rfl rfl Tryz.func8
theorem soundpounceref08_Big_ (V : Ev) (hV : V.OK) : CallSound Tryz.prog (env V []) 29 ⟨sigpounceref08_Big_, pounceref08_Big_ V⟩ := by
  rw [← rawpounceref08_Big_ V]
  exact aFn_sound (E2 := env V []) (envOK V hV (callspounceref08_Big_ V) (by kernel_rfl) (calls_cons ((cs_cons (soundpounceref02_Big_ V hV) cs_nil)) (calls_nil rfl))) rfl rfl rfl Tryz.func29
theorem soundpounceref02_Own_ (V : Ev) (hV : V.OK) : CallSound Tryz.prog (env V []) 58 ⟨sigpounceref02_Own_, pounceref02_Own_ V⟩ := by
  rw [← rawpounceref02_Own_ V]
  exact aFn_sound (E2 := env V []) (envOK V hV (callspounceref02_Own_ V) (by kernel_rfl) (calls_nil rfl)) rfl rfl rfl Tryz.func58
theorem soundpounceref08_Own_ (V : Ev) (hV : V.OK) : CallSound Tryz.prog (env V []) 30 ⟨sigpounceref08_Own_, pounceref08_Own_ V⟩ := by
  rw [← rawpounceref08_Own_ V]
  exact aFn_sound (E2 := env V []) (envOK V hV (callspounceref08_Own_ V) (by kernel_rfl) (calls_cons ((cs_cons (soundpounceref02_Own_ V hV) cs_nil)) (calls_nil rfl))) rfl rfl rfl Tryz.func30
theorem soundchain_Names_ (V : Ev) (hV : V.OK) : CallSound Tryz.prog (env V []) 35 ⟨sigchain_Names_, chain_Names_ V⟩ := by
  rw [← rawchain_Names_ V]
  exact aFn_sound (E2 := env V []) (envOK V hV (callschain_Names_ V) (by kernel_rfl) (calls_nil rfl)) rfl rfl rfl Tryz.func35
theorem soundslices_Clone__string_string_ (V : Ev) (hV : V.OK) : CallSound Tryz.prog (env V []) 70 ⟨sigslices_Clone__string_string_, slices_Clone__string_string_ V⟩ := by
  rw [← rawslices_Clone__string_string_ V]
  exact aFn_sound (E2 := env V []) (envOK V hV (callsslices_Clone__string_string_ V) (by kernel_rfl) (calls_nil rfl)) rfl rfl rfl Tryz.func70
theorem soundheader_Find_ (V : Ev) (hV : V.OK) : CallSound Tryz.prog (env V []) 45 ⟨sigheader_Find_, header_Find_ V⟩ := by
  rw [← rawheader_Find_ V]
  exact aFn_sound (E2 := env V []) (envOK V hV (callsheader_Find_ V) (by kernel_rfl) (calls_cons ((cs_cons (soundfold_Lower_ V hV) cs_nil)) (calls_cons ((cs_cons (soundslices_Clone__string_string_ V hV) cs_nil)) (calls_nil rfl)))) rfl rfl rfl Tryz.func45
theorem soundchain_Effective_ (V : Ev) (hV : V.OK) : CallSound Tryz.prog (env V []) 31 ⟨sigchain_Effective_, chain_Effective_ V⟩ := by
  rw [← rawchain_Effective_ V]
  exact aFn_sound (E2 := env V []) (envOK V hV (callschain_Effective_ V) (by kernel_rfl) (calls_cons ((cs_cons (soundsource_List_ V hV) cs_nil)) (calls_cons ((cs_cons (soundchain_Names_ V hV) cs_nil)) (calls_cons ((cs_cons (soundheader_Find_ V hV) cs_nil)) (calls_nil rfl))))) rfl rfl rfl Tryz.func31
theorem soundpounceref12_Names_ (V : Ev) (hV : V.OK) : CallSound Tryz.prog (env V []) 36 ⟨sigpounceref12_Names_, pounceref12_Names_ V⟩ := by
  rw [← rawpounceref12_Names_ V]
  exact aFn_sound (E2 := env V []) (envOK V hV (callspounceref12_Names_ V) (by kernel_rfl) (calls_nil rfl)) rfl rfl rfl Tryz.func36
theorem soundpounceref02_Lower_ (V : Ev) (hV : V.OK) : CallSound Tryz.prog (env V []) 92 ⟨sigpounceref02_Lower_, pounceref02_Lower_ V⟩ := by
  rw [← rawpounceref02_Lower_ V]
  exact aFn_sound (E2 := env V []) (envOK V hV (callspounceref02_Lower_ V) (by kernel_rfl) (calls_nil rfl)) rfl rfl rfl Tryz.func92
theorem soundpounceref08_Find_ (V : Ev) (hV : V.OK) : CallSound Tryz.prog (env V []) 59 ⟨sigpounceref08_Find_, pounceref08_Find_ V⟩ := by
  rw [← rawpounceref08_Find_ V]
  exact aFn_sound (E2 := env V []) (envOK V hV (callspounceref08_Find_ V) (by kernel_rfl) (calls_cons ((cs_cons (soundpounceref02_Own_ V hV) cs_nil)) (calls_cons ((cs_cons (soundpounceref02_Lower_ V hV) cs_nil)) (calls_nil rfl)))) rfl rfl rfl Tryz.func59
theorem soundpounceref09_begins_ (V : Ev) (hV : V.OK) : CallSound Tryz.prog (env V []) 172 ⟨sigpounceref09_begins_, pounceref09_begins_ V⟩ := by
  rw [← rawpounceref09_begins_ V]
  exact aFn_sound (E2 := env V []) (envOK V hV (callspounceref09_begins_ V) (by kernel_rfl) (calls_cons ((cs_cons (soundpounceref02_Lower_ V hV) cs_nil)) (calls_nil rfl))) rfl rfl rfl Tryz.func172
theorem soundpounceref04_Decode_ (V : Ev) (hV : V.OK) : CallSound Tryz.prog (env V []) 173 ⟨sigpounceref04_Decode_, pounceref04_Decode_ V⟩ := by
  rw [← rawpounceref04_Decode_ V]
  exact aFn_sound (E2 := env V []) (envOK V hV (callspounceref04_Decode_ V) (by kernel_rfl) (calls_cons ((cs_cons (soundpounceref04_Form_ V hV) cs_nil)) (calls_cons ((cs_cons (soundpounceref04_head_ V hV) cs_nil)) (calls_cons ((cs_cons (soundpounceref04_value_ V hV) cs_nil)) (calls_cons ((cs_cons (soundpounceref04_bits_ V hV) cs_nil)) (calls_cons ((cs_cons (soundpounceref04_number_ V hV) cs_nil)) (calls_nil rfl))))))) rfl rfl rfl Tryz.func173
theorem soundpounceref09_quoted_ (V : Ev) (hV : V.OK) : CallSound Tryz.prog (env V []) 133 ⟨sigpounceref09_quoted_, pounceref09_quoted_ V⟩ := by
  rw [← rawpounceref09_quoted_ V]
  exact aFn_sound (E2 := env V []) (envOK V hV (callspounceref09_quoted_ V) (by kernel_rfl) (calls_cons ((cs_cons (soundpounceref09_Kept_ V hV) cs_nil)) (calls_cons ((cs_cons (soundpounceref02_Lower_ V hV) cs_nil)) (calls_cons ((cs_cons (soundpounceref09_begins_ V hV) cs_nil)) (calls_cons ((cs_cons (soundpounceref04_Decode_ V hV) cs_nil)) (calls_nil rfl)))))) rfl rfl rfl Tryz.func133
theorem soundpounceref09_split_ (V : Ev) (hV : V.OK) : CallSound Tryz.prog (env V []) 174 ⟨sigpounceref09_split_, pounceref09_split_ V⟩ := by
  rw [← rawpounceref09_split_ V]
  exact aFn_sound (E2 := env V []) (envOK V hV (callspounceref09_split_ V) (by kernel_rfl) (calls_nil rfl)) rfl rfl rfl Tryz.func174
theorem soundpounceref05_Cut_ (V : Ev) (hV : V.OK) : CallSound Tryz.prog (env V []) 175 ⟨sigpounceref05_Cut_, pounceref05_Cut_ V⟩ := by
  rw [← rawpounceref05_Cut_ V]
  exact aFn_sound (E2 := env V []) (envOK V hV (callspounceref05_Cut_ V) (by kernel_rfl) (calls_nil rfl)) rfl rfl rfl Tryz.func175
theorem soundpounceref09_port_ (V : Ev) (hV : V.OK) : CallSound Tryz.prog (env V []) 176 ⟨sigpounceref09_port_, pounceref09_port_ V⟩ := by
  rw [← rawpounceref09_port_ V]
  exact aFn_sound (E2 := env V []) (envOK V hV (callspounceref09_port_ V) (by kernel_rfl) (calls_nil rfl)) rfl rfl rfl Tryz.func176
theorem soundpounceref09_plain_ (V : Ev) (hV : V.OK) : CallSound Tryz.prog (env V []) 134 ⟨sigpounceref09_plain_, pounceref09_plain_ V⟩ := by
  rw [← rawpounceref09_plain_ V]
  exact aFn_sound (E2 := env V []) (envOK V hV (callspounceref09_plain_ V) (by kernel_rfl) (calls_cons ((cs_cons (soundpounceref02_Lower_ V hV) cs_nil)) (calls_cons ((cs_cons (soundpounceref09_begins_ V hV) cs_nil)) (calls_cons ((cs_cons (soundpounceref09_split_ V hV) cs_nil)) (calls_cons ((cs_cons (soundpounceref05_Cut_ V hV) cs_nil)) (calls_cons ((cs_cons (soundpounceref09_port_ V hV) cs_nil)) (calls_nil rfl))))))) rfl rfl rfl Tryz.func134
theorem soundpounceref09_Parse_ (V : Ev) (hV : V.OK) : CallSound Tryz.prog (env V []) 93 ⟨sigpounceref09_Parse_, pounceref09_Parse_ V⟩ := by
  rw [← rawpounceref09_Parse_ V]
  exact aFn_sound (E2 := env V []) (envOK V hV (callspounceref09_Parse_ V) (by kernel_rfl) (calls_cons ((cs_cons (soundpounceref09_Right_ V hV) cs_nil)) (calls_cons ((cs_cons (soundpounceref09_quoted_ V hV) cs_nil)) (calls_cons ((cs_cons (soundpounceref09_plain_ V hV) cs_nil)) (calls_nil rfl))))) rfl rfl rfl Tryz.func93
theorem soundpounceref09_List_ (V : Ev) (hV : V.OK) : CallSound Tryz.prog (env V []) 60 ⟨sigpounceref09_List_, pounceref09_List_ V⟩ := by
  rw [← rawpounceref09_List_ V]
  exact aFn_sound (E2 := env V []) (envOK V hV (callspounceref09_List_ V) (by kernel_rfl) (calls_cons ((cs_cons (soundpounceref09_Parse_ V hV) cs_nil)) (calls_nil rfl))) rfl rfl rfl Tryz.func60
theorem soundpounceref12_Effective_ (V : Ev) (hV : V.OK) : CallSound Tryz.prog (env V []) 32 ⟨sigpounceref12_Effective_, pounceref12_Effective_ V⟩ := by
  rw [← rawpounceref12_Effective_ V]
  exact aFn_sound (E2 := env V []) (envOK V hV (callspounceref12_Effective_ V) (by kernel_rfl) (calls_cons ((cs_cons (soundpounceref12_Names_ V hV) cs_nil)) (calls_cons ((cs_cons (soundpounceref08_Find_ V hV) cs_nil)) (calls_cons ((cs_cons (soundpounceref09_List_ V hV) cs_nil)) (calls_nil rfl))))) rfl rfl rfl Tryz.func32
theorem soundpouncelaw12_ChainNames_ (V : Ev) (hV : V.OK) : CallSound Tryz.prog (env V []) 9 ⟨sigpouncelaw12_ChainNames_, pouncelaw12_ChainNames_ V⟩ := by
  rw [← rawpouncelaw12_ChainNames_ V]
  exact aFn_sound (E2 := env V []) (envOK V hV (callspouncelaw12_ChainNames_ V) (by kernel_rfl) (calls_cons ((cs_cons (soundpounceref08_Big_ V hV) cs_nil)) (calls_cons ((cs_cons (soundpounceref08_Own_ V hV) cs_nil)) (calls_cons ((cs_cons (soundchain_Effective_ V hV) cs_nil)) (calls_cons ((cs_cons (soundpounceref12_Effective_ V hV) cs_nil)) (calls_nil rfl)))))) rfl rfl rfl Tryz.func9
theorem soundpounceref05_Big_ (V : Ev) (hV : V.OK) : CallSound Tryz.prog (env V []) 94 ⟨sigpounceref05_Big_, pounceref05_Big_ V⟩ := by
  rw [← rawpounceref05_Big_ V]
  exact aFn_sound (E2 := env V []) (envOK V hV (callspounceref05_Big_ V) (by kernel_rfl) (calls_nil rfl)) rfl rfl rfl Tryz.func94
theorem soundpounceref11_Big_ (V : Ev) (hV : V.OK) : CallSound Tryz.prog (env V []) 62 ⟨sigpounceref11_Big_, pounceref11_Big_ V⟩ := by
  rw [← rawpounceref11_Big_ V]
  exact aFn_sound (E2 := env V []) (envOK V hV (callspounceref11_Big_ V) (by kernel_rfl) (calls_cons ((cs_cons (soundpounceref05_Big_ V hV) cs_nil)) (calls_nil rfl))) rfl rfl rfl Tryz.func62
theorem soundpouncelaw12_large_ (V : Ev) (hV : V.OK) : CallSound Tryz.prog (env V []) 38 ⟨sigpouncelaw12_large_, pouncelaw12_large_ V⟩ := by
  rw [← rawpouncelaw12_large_ V]
  exact aFn_sound (E2 := env V []) (envOK V hV (callspouncelaw12_large_ V) (by kernel_rfl) (calls_cons ((cs_cons (soundpounceref08_Big_ V hV) cs_nil)) (calls_cons ((cs_cons (soundpounceref11_Big_ V hV) cs_nil)) (calls_nil rfl)))) rfl rfl rfl Tryz.func38
theorem soundallow_text_1_8f5 (V : Ev) (hV : V.OK) : CallSound Tryz.prog (env V []) 177 ⟨sigallow_text_1_8f5, allow_text_1_8f5 V⟩ := by
  rw [← rawallow_text_1_8f5 V]
  exact aFn_sound (E2 := env V []) (envOK V hV (callsallow_text_1_8f5 V) (by kernel_rfl) (calls_nil rfl)) rfl rfl rfl Tryz.func177
theorem soundallow_some_api_Source_a97 (V : Ev) (hV : V.OK) : CallSound Tryz.prog (env V []) 138 ⟨sigallow_some_api_Source_a97, allow_some_api_Source_a97 V⟩ := by
  rw [← rawallow_some_api_Source_a97 V]
  exact aFn_sound (E2 := env V []) (envOK V hV (callsallow_some_api_Source_a97 V) (by kernel_rfl) (calls_cons ((cs_cons (soundallow_text_1_8f5 V hV) cs_nil)) (calls_nil rfl))) rfl rfl rfl Tryz.func138
theorem soundallow_text_ (V : Ev) (hV : V.OK) : CallSound Tryz.prog (env V []) 135 ⟨sigallow_text_, allow_text_ V⟩ := by
  rw [← rawallow_text_ V]
  exact aFn_sound (E2 := env V []) (envOK V hV (callsallow_text_ V) (by kernel_rfl) (calls_cons ((cs_cons (soundallow_some_api_Source_a97 V hV) cs_nil)) (calls_nil rfl))) rfl rfl rfl Tryz.func135
theorem soundallow_Nonce_ (V : Ev) (hV : V.OK) : CallSound Tryz.prog (env V []) 95 ⟨sigallow_Nonce_, allow_Nonce_ V⟩ := by
  rw [← rawallow_Nonce_ V]
  exact aFn_sound (E2 := env V []) (envOK V hV (callsallow_Nonce_ V) (by kernel_rfl) (calls_cons ((cs_cons (soundallow_text_ V hV) cs_nil)) (calls_nil rfl))) rfl rfl rfl Tryz.func95
theorem soundallow_has_1_1_8c6 (V : Ev) (hV : V.OK) : CallSound Tryz.prog (env V []) 139 ⟨sigallow_has_1_1_8c6, allow_has_1_1_8c6 V⟩ := by
  rw [← rawallow_has_1_1_8c6 V]
  exact aFn_sound (E2 := env V []) (envOK V hV (callsallow_has_1_1_8c6 V) (by kernel_rfl) (calls_nil rfl)) rfl rfl rfl Tryz.func139
theorem soundallow_some_api_Source_aa9 (V : Ev) (hV : V.OK) : CallSound Tryz.prog (env V []) 138 ⟨sigallow_some_api_Source_aa9, allow_some_api_Source_aa9 V⟩ := by
  rw [← rawallow_some_api_Source_aa9 V]
  exact aFn_sound (E2 := env V []) (envOK V hV (callsallow_some_api_Source_aa9 V) (by kernel_rfl) (calls_cons ((cs_cons (soundallow_has_1_1_8c6 V hV) cs_nil)) (calls_nil rfl))) rfl rfl rfl Tryz.func138
theorem soundallow_has_1_905 (V : Ev) (hV : V.OK) : CallSound Tryz.prog (env V []) 137 ⟨sigallow_has_1_905, allow_has_1_905 V⟩ := by
  rw [← rawallow_has_1_905 V]
  exact aFn_sound (E2 := env V []) (envOK V hV (callsallow_has_1_905 V) (by kernel_rfl) (calls_cons ((cs_cons (soundallow_some_api_Source_aa9 V hV) cs_nil)) (calls_nil rfl))) rfl rfl rfl Tryz.func137
theorem soundallow_some_api_SourceKind_c08 (V : Ev) (hV : V.OK) : CallSound Tryz.prog (env V []) 136 ⟨sigallow_some_api_SourceKind_c08, allow_some_api_SourceKind_c08 V⟩ := by
  rw [← rawallow_some_api_SourceKind_c08 V]
  exact aFn_sound (E2 := env V []) (envOK V hV (callsallow_some_api_SourceKind_c08 V) (by kernel_rfl) (calls_cons ((cs_cons (soundallow_has_1_905 V hV) cs_nil)) (calls_nil rfl))) rfl rfl rfl Tryz.func136
theorem soundallow_has_ (V : Ev) (hV : V.OK) : CallSound Tryz.prog (env V []) 96 ⟨sigallow_has_, allow_has_ V⟩ := by
  rw [← rawallow_has_ V]
  exact aFn_sound (E2 := env V []) (envOK V hV (callsallow_has_ V) (by kernel_rfl) (calls_cons ((cs_cons (soundallow_some_api_SourceKind_c08 V hV) cs_nil)) (calls_nil rfl))) rfl rfl rfl Tryz.func96
theorem soundmatch_Url_1_4de (V : Ev) (hV : V.OK) : CallSound Tryz.prog (env V []) 178 ⟨sigmatch_Url_1_4de, match_Url_1_4de V⟩ := by
  rw [← rawmatch_Url_1_4de V]
  exact aFn_sound (E2 := env V []) (envOK V hV (callsmatch_Url_1_4de V) (by kernel_rfl) (calls_cons ((cs_cons (soundurl_Check_ V hV) cs_nil)) (calls_nil rfl))) rfl rfl rfl Tryz.func178
theorem soundmatch_Scheme_ (V : Ev) (hV : V.OK) : CallSound Tryz.prog (env V []) 180 ⟨sigmatch_Scheme_, match_Scheme_ V⟩ := by
  rw [← rawmatch_Scheme_ V]
  exact aFn_sound (E2 := env V []) (envOK V hV (callsmatch_Scheme_ V) (by kernel_rfl) (calls_nil rfl)) rfl rfl rfl Tryz.func180
theorem soundmatch_Url_2_9a2 (V : Ev) (hV : V.OK) : CallSound Tryz.prog (env V []) 179 ⟨sigmatch_Url_2_9a2, match_Url_2_9a2 V⟩ := by
  rw [← rawmatch_Url_2_9a2 V]
  exact aFn_sound (E2 := env V []) (envOK V hV (callsmatch_Url_2_9a2 V) (by kernel_rfl) (calls_cons ((cs_cons (soundmatch_Scheme_ V hV) cs_nil)) (calls_nil rfl))) rfl rfl rfl Tryz.func179
theorem soundmatch_all_c7a (V : Ev) (hV : V.OK) : CallSound Tryz.prog (env V []) 181 ⟨sigmatch_all_c7a, match_all_c7a V⟩ := by
  rw [← rawmatch_all_c7a V]
  exact aFn_sound (E2 := env V []) (envOK V hV (callsmatch_all_c7a V) (by kernel_rfl) (calls_cons ((cs_cons (soundmatch_Url_1_4de V hV) cs_nil)) (calls_cons ((cs_cons (soundmatch_Url_2_9a2 V hV) cs_nil)) (calls_nil rfl)))) rfl rfl rfl Tryz.func181
theorem soundmatch_Url_3_4de (V : Ev) (hV : V.OK) : CallSound Tryz.prog (env V []) 182 ⟨sigmatch_Url_3_4de, match_Url_3_4de V⟩ := by
  rw [← rawmatch_Url_3_4de V]
  exact aFn_sound (E2 := env V []) (envOK V hV (callsmatch_Url_3_4de V) (by kernel_rfl) (calls_nil rfl)) rfl rfl rfl Tryz.func182
theorem soundistringslite_CutSuffix_ (V : Ev) (hV : V.OK) : CallSound Tryz.prog (env V []) 253 ⟨sigistringslite_CutSuffix_, istringslite_CutSuffix_ V⟩ := by
  rw [← rawistringslite_CutSuffix_ V]
  exact aFn_sound (E2 := env V []) (envOK V hV (callsistringslite_CutSuffix_ V) (by kernel_rfl) (calls_cons ((cs_cons (soundistringslite_HasSuffix_ V hV) cs_nil)) (calls_nil rfl))) rfl rfl rfl Tryz.func253
theorem soundstrings_CutSuffix_ (V : Ev) (hV : V.OK) : CallSound Tryz.prog (env V []) 224 ⟨sigstrings_CutSuffix_, strings_CutSuffix_ V⟩ := by
  rw [← rawstrings_CutSuffix_ V]
  exact aFn_sound (E2 := env V []) (envOK V hV (callsstrings_CutSuffix_ V) (by kernel_rfl) (calls_cons ((cs_cons (soundistringslite_CutSuffix_ V hV) cs_nil)) (calls_nil rfl))) rfl rfl rfl Tryz.func224
theorem soundmatch_Host_ (V : Ev) (hV : V.OK) : CallSound Tryz.prog (env V []) 184 ⟨sigmatch_Host_, match_Host_ V⟩ := by
  rw [← rawmatch_Host_ V]
  exact aFn_sound (E2 := env V []) (envOK V hV (callsmatch_Host_ V) (by kernel_rfl) (calls_cons ((cs_cons (soundfold_Lower_ V hV) cs_nil)) (calls_cons ((cs_cons (soundstrings_CutSuffix_ V hV) cs_nil)) (calls_nil rfl)))) rfl rfl rfl Tryz.func184
theorem soundmatch_Url_4_e35 (V : Ev) (hV : V.OK) : CallSound Tryz.prog (env V []) 183 ⟨sigmatch_Url_4_e35, match_Url_4_e35 V⟩ := by
  rw [← rawmatch_Url_4_e35 V]
  exact aFn_sound (E2 := env V []) (envOK V hV (callsmatch_Url_4_e35 V) (by kernel_rfl) (calls_cons ((cs_cons (soundmatch_Host_ V hV) cs_nil)) (calls_nil rfl))) rfl rfl rfl Tryz.func183
theorem soundmatch_port_ (V : Ev) (hV : V.OK) : CallSound Tryz.prog (env V []) 225 ⟨sigmatch_port_, match_port_ V⟩ := by
  rw [← rawmatch_port_ V]
  exact aFn_sound (E2 := env V []) (envOK V hV (callsmatch_port_ V) (by kernel_rfl) (calls_cons ((cs_cons (soundurl_Default_ V hV) cs_nil)) (calls_nil rfl))) rfl rfl rfl Tryz.func225
theorem soundmatch_Port_ (V : Ev) (hV : V.OK) : CallSound Tryz.prog (env V []) 186 ⟨sigmatch_Port_, match_Port_ V⟩ := by
  rw [← rawmatch_Port_ V]
  exact aFn_sound (E2 := env V []) (envOK V hV (callsmatch_Port_ V) (by kernel_rfl) (calls_cons ((cs_cons (soundurl_Default_ V hV) cs_nil)) (calls_cons ((cs_cons (soundmatch_port_ V hV) cs_nil)) (calls_nil rfl)))) rfl rfl rfl Tryz.func186
theorem soundmatch_Url_5_e35 (V : Ev) (hV : V.OK) : CallSound Tryz.prog (env V []) 185 ⟨sigmatch_Url_5_e35, match_Url_5_e35 V⟩ := by
  rw [← rawmatch_Url_5_e35 V]
  exact aFn_sound (E2 := env V []) (envOK V hV (callsmatch_Url_5_e35 V) (by kernel_rfl) (calls_cons ((cs_cons (soundmatch_Port_ V hV) cs_nil)) (calls_nil rfl))) rfl rfl rfl Tryz.func185
theorem soundstrings_HasSuffix_ (V : Ev) (hV : V.OK) : CallSound Tryz.prog (env V []) 226 ⟨sigstrings_HasSuffix_, strings_HasSuffix_ V⟩ := by
  rw [← rawstrings_HasSuffix_ V]
  exact aFn_sound (E2 := env V []) (envOK V hV (callsstrings_HasSuffix_ V) (by kernel_rfl) (calls_cons ((cs_cons (soundistringslite_HasSuffix_ V hV) cs_nil)) (calls_nil rfl))) rfl rfl rfl Tryz.func226
theorem soundmatch_Path_ (V : Ev) (hV : V.OK) : CallSound Tryz.prog (env V []) 188 ⟨sigmatch_Path_, match_Path_ V⟩ := by
  rw [← rawmatch_Path_ V]
  exact aFn_sound (E2 := env V []) (envOK V hV (callsmatch_Path_ V) (by kernel_rfl) (calls_cons ((cs_cons (soundstrings_HasPrefix_ V hV) cs_nil)) (calls_cons ((cs_cons (soundstrings_HasSuffix_ V hV) cs_nil)) (calls_nil rfl)))) rfl rfl rfl Tryz.func188
theorem soundmatch_Url_6_20a (V : Ev) (hV : V.OK) : CallSound Tryz.prog (env V []) 187 ⟨sigmatch_Url_6_20a, match_Url_6_20a V⟩ := by
  rw [← rawmatch_Url_6_20a V]
  exact aFn_sound (E2 := env V []) (envOK V hV (callsmatch_Url_6_20a V) (by kernel_rfl) (calls_cons ((cs_cons (soundmatch_Path_ V hV) cs_nil)) (calls_nil rfl))) rfl rfl rfl Tryz.func187
theorem soundmatch_all_8e3 (V : Ev) (hV : V.OK) : CallSound Tryz.prog (env V []) 181 ⟨sigmatch_all_8e3, match_all_8e3 V⟩ := by
  rw [← rawmatch_all_8e3 V]
  exact aFn_sound (E2 := env V []) (envOK V hV (callsmatch_all_8e3 V) (by kernel_rfl) (calls_cons ((cs_cons (soundmatch_Url_1_4de V hV) cs_nil)) (calls_cons ((cs_cons (soundmatch_Url_2_9a2 V hV) cs_nil)) (calls_cons ((cs_cons (soundmatch_Url_3_4de V hV) cs_nil)) (calls_cons ((cs_cons (soundmatch_Url_4_e35 V hV) cs_nil)) (calls_cons ((cs_cons (soundmatch_Url_5_e35 V hV) cs_nil)) (calls_cons ((cs_cons (soundmatch_Url_6_20a V hV) cs_nil)) (calls_nil rfl)))))))) rfl rfl rfl Tryz.func181
theorem soundorigin_address_port_ (V : Ev) (hV : V.OK) : CallSound Tryz.prog (env V []) 227 ⟨sigorigin_address_port_, origin_address_port_ V⟩ := by
  rw [← raworigin_address_port_ V]
  exact aFn_sound (E2 := env V []) (envOK V hV (callsorigin_address_port_ V) (by kernel_rfl) (calls_cons ((cs_cons (soundurl_Default_ V hV) cs_nil)) (calls_nil rfl))) rfl rfl rfl Tryz.func227
theorem soundorigin_Of_ (V : Ev) (hV : V.OK) : CallSound Tryz.prog (env V []) 191 ⟨sigorigin_Of_, origin_Of_ V⟩ := by
  rw [← raworigin_Of_ V]
  exact aFn_sound (E2 := env V []) (envOK V hV (callsorigin_Of_ V) (by kernel_rfl) (calls_cons ((cs_cons (soundurl_Check_ V hV) cs_nil)) (calls_cons ((cs_cons (soundorigin_address_port_ V hV) cs_nil)) (calls_nil rfl)))) rfl rfl rfl Tryz.func191
theorem soundorigin_Same_ (V : Ev) (hV : V.OK) : CallSound Tryz.prog (env V []) 190 ⟨sigorigin_Same_, origin_Same_ V⟩ := by
  rw [← raworigin_Same_ V]
  exact aFn_sound (E2 := env V []) (envOK V hV (callsorigin_Same_ V) (by kernel_rfl) (calls_nil rfl)) rfl rfl rfl Tryz.func190
theorem soundmatch_Url_7_631 (V : Ev) (hV : V.OK) : CallSound Tryz.prog (env V []) 189 ⟨sigmatch_Url_7_631, match_Url_7_631 V⟩ := by
  rw [← rawmatch_Url_7_631 V]
  exact aFn_sound (E2 := env V []) (envOK V hV (callsmatch_Url_7_631 V) (by kernel_rfl) (calls_nil rfl)) rfl rfl rfl Tryz.func189
theorem soundmatch_Url_8_631 (V : Ev) (hV : V.OK) : CallSound Tryz.prog (env V []) 192 ⟨sigmatch_Url_8_631, match_Url_8_631 V⟩ := by
  rw [← rawmatch_Url_8_631 V]
  exact aFn_sound (E2 := env V []) (envOK V hV (callsmatch_Url_8_631 V) (by kernel_rfl) (calls_cons ((cs_cons (soundurl_Check_ V hV) cs_nil)) (calls_cons ((cs_cons (soundmatch_Scheme_ V hV) cs_nil)) (calls_nil rfl)))) rfl rfl rfl Tryz.func192
theorem soundmatch_all_93a (V : Ev) (hV : V.OK) : CallSound Tryz.prog (env V []) 181 ⟨sigmatch_all_93a, match_all_93a V⟩ := by
  rw [← rawmatch_all_93a V]
  exact aFn_sound (E2 := env V []) (envOK V hV (callsmatch_all_93a V) (by kernel_rfl) (calls_cons ((cs_cons (soundmatch_Url_1_4de V hV) cs_nil)) (calls_cons ((cs_cons (soundmatch_Url_7_631 V hV) cs_nil)) (calls_cons ((cs_cons (soundmatch_Url_8_631 V hV) cs_nil)) (calls_nil rfl))))) rfl rfl rfl Tryz.func181
theorem soundmatch_Url_ (V : Ev) (hV : V.OK) : CallSound Tryz.prog (env V []) 141 ⟨sigmatch_Url_, match_Url_ V⟩ := by
  rw [← rawmatch_Url_ V]
  exact aFn_sound (E2 := env V []) (envOK V hV (callsmatch_Url_ V) (by kernel_rfl) (calls_cons ((cs_cons (soundmatch_all_c7a V hV) (cs_cons (soundmatch_all_8e3 V hV) (cs_cons (soundmatch_all_93a V hV) cs_nil)))) (calls_cons ((cs_cons (soundorigin_Same_ V hV) cs_nil)) (calls_cons ((cs_cons (soundorigin_Of_ V hV) cs_nil)) (calls_nil rfl))))) rfl rfl rfl Tryz.func141
theorem soundallow_Url_1_cbd (V : Ev) (hV : V.OK) : CallSound Tryz.prog (env V []) 140 ⟨sigallow_Url_1_cbd, allow_Url_1_cbd V⟩ := by
  rw [← rawallow_Url_1_cbd V]
  exact aFn_sound (E2 := env V []) (envOK V hV (callsallow_Url_1_cbd V) (by kernel_rfl) (calls_cons ((cs_cons (soundmatch_Url_ V hV) cs_nil)) (calls_nil rfl))) rfl rfl rfl Tryz.func140
theorem soundallow_some_api_Source_3c0 (V : Ev) (hV : V.OK) : CallSound Tryz.prog (env V []) 138 ⟨sigallow_some_api_Source_3c0, allow_some_api_Source_3c0 V⟩ := by
  rw [← rawallow_some_api_Source_3c0 V]
  exact aFn_sound (E2 := env V []) (envOK V hV (callsallow_some_api_Source_3c0 V) (by kernel_rfl) (calls_cons ((cs_cons (soundallow_Url_1_cbd V hV) cs_nil)) (calls_nil rfl))) rfl rfl rfl Tryz.func138
theorem soundallow_Url_ (V : Ev) (hV : V.OK) : CallSound Tryz.prog (env V []) 97 ⟨sigallow_Url_, allow_Url_ V⟩ := by
  rw [← rawallow_Url_ V]
  exact aFn_sound (E2 := env V []) (envOK V hV (callsallow_Url_ V) (by kernel_rfl) (calls_cons ((cs_cons (soundallow_some_api_Source_3c0 V hV) cs_nil)) (calls_nil rfl))) rfl rfl rfl Tryz.func97
theorem soundallow_Fetch_ (V : Ev) (hV : V.OK) : CallSound Tryz.prog (env V []) 63 ⟨sigallow_Fetch_, allow_Fetch_ V⟩ := by
  rw [← rawallow_Fetch_ V]
  exact aFn_sound (E2 := env V []) (envOK V hV (callsallow_Fetch_ V) (by kernel_rfl) (calls_cons ((cs_cons (soundallow_Nonce_ V hV) cs_nil)) (calls_cons ((cs_cons (soundallow_has_ V hV) cs_nil)) (calls_cons ((cs_cons (soundallow_Url_ V hV) cs_nil)) (calls_nil rfl))))) rfl rfl rfl Tryz.func63
theorem soundallow_Eval_ (V : Ev) (hV : V.OK) : CallSound Tryz.prog (env V []) 64 ⟨sigallow_Eval_, allow_Eval_ V⟩ := by
  rw [← rawallow_Eval_ V]
  exact aFn_sound (E2 := env V []) (envOK V hV (callsallow_Eval_ V) (by kernel_rfl) (calls_cons ((cs_cons (soundallow_has_ V hV) cs_nil)) (calls_nil rfl))) rfl rfl rfl Tryz.func64
theorem soundallow_Loose_ (V : Ev) (hV : V.OK) : CallSound Tryz.prog (env V []) 98 ⟨sigallow_Loose_, allow_Loose_ V⟩ := by
  rw [← rawallow_Loose_ V]
  exact aFn_sound (E2 := env V []) (envOK V hV (callsallow_Loose_ V) (by kernel_rfl) (calls_cons ((cs_cons (soundallow_has_ V hV) cs_nil)) (calls_nil rfl))) rfl rfl rfl Tryz.func98
theorem soundallow_Hash_ (V : Ev) (hV : V.OK) : CallSound Tryz.prog (env V []) 99 ⟨sigallow_Hash_, allow_Hash_ V⟩ := by
  rw [← rawallow_Hash_ V]
  exact aFn_sound (E2 := env V []) (envOK V hV (callsallow_Hash_ V) (by kernel_rfl) (calls_cons ((cs_cons (soundmark_Of_ V hV) cs_nil)) (calls_cons ((cs_cons (soundallow_text_ V hV) cs_nil)) (calls_nil rfl)))) rfl rfl rfl Tryz.func99
theorem soundallow_Inline_ (V : Ev) (hV : V.OK) : CallSound Tryz.prog (env V []) 65 ⟨sigallow_Inline_, allow_Inline_ V⟩ := by
  rw [← rawallow_Inline_ V]
  exact aFn_sound (E2 := env V []) (envOK V hV (callsallow_Inline_ V) (by kernel_rfl) (calls_cons ((cs_cons (soundallow_Nonce_ V hV) cs_nil)) (calls_cons ((cs_cons (soundallow_has_ V hV) cs_nil)) (calls_cons ((cs_cons (soundallow_Loose_ V hV) cs_nil)) (calls_cons ((cs_cons (soundallow_Hash_ V hV) cs_nil)) (calls_nil rfl)))))) rfl rfl rfl Tryz.func65
theorem soundchain_One_ (V : Ev) (hV : V.OK) : CallSound Tryz.prog (env V []) 39 ⟨sigchain_One_, chain_One_ V⟩ := by
  rw [← rawchain_One_ V]
  exact aFn_sound (E2 := env V []) (envOK V hV (callschain_One_ V) (by kernel_rfl) (calls_cons ((cs_cons (soundchain_Effective_ V hV) cs_nil)) (calls_cons ((cs_cons (soundallow_Fetch_ V hV) cs_nil)) (calls_cons ((cs_cons (soundallow_Eval_ V hV) cs_nil)) (calls_cons ((cs_cons (soundallow_Inline_ V hV) cs_nil)) (calls_nil rfl)))))) rfl rfl rfl Tryz.func39
theorem soundpounceref11_Has_ (V : Ev) (hV : V.OK) : CallSound Tryz.prog (env V []) 100 ⟨sigpounceref11_Has_, pounceref11_Has_ V⟩ := by
  rw [← rawpounceref11_Has_ V]
  exact aFn_sound (E2 := env V []) (envOK V hV (callspounceref11_Has_ V) (by kernel_rfl) (calls_nil rfl)) rfl rfl rfl Tryz.func100
theorem soundpounceref11_text_ (V : Ev) (hV : V.OK) : CallSound Tryz.prog (env V []) 142 ⟨sigpounceref11_text_, pounceref11_text_ V⟩ := by
  rw [← rawpounceref11_text_ V]
  exact aFn_sound (E2 := env V []) (envOK V hV (callspounceref11_text_ V) (by kernel_rfl) (calls_nil rfl)) rfl rfl rfl Tryz.func142
theorem soundpounceref11_Nonce_ (V : Ev) (hV : V.OK) : CallSound Tryz.prog (env V []) 101 ⟨sigpounceref11_Nonce_, pounceref11_Nonce_ V⟩ := by
  rw [← rawpounceref11_Nonce_ V]
  exact aFn_sound (E2 := env V []) (envOK V hV (callspounceref11_Nonce_ V) (by kernel_rfl) (calls_cons ((cs_cons (soundpounceref11_text_ V hV) cs_nil)) (calls_nil rfl))) rfl rfl rfl Tryz.func101
theorem soundpounceref05_Default_ (V : Ev) (hV : V.OK) : CallSound Tryz.prog (env V []) 228 ⟨sigpounceref05_Default_, pounceref05_Default_ V⟩ := by
  rw [← rawpounceref05_Default_ V]
  exact aFn_sound (E2 := env V []) (envOK V hV (callspounceref05_Default_ V) (by kernel_rfl) (calls_nil rfl)) rfl rfl rfl Tryz.func228
theorem soundpounceref02_Blank_ (V : Ev) (hV : V.OK) : CallSound Tryz.prog (env V []) 264 ⟨sigpounceref02_Blank_, pounceref02_Blank_ V⟩ := by
  rw [← rawpounceref02_Blank_ V]
  exact aFn_sound (E2 := env V []) (envOK V hV (callspounceref02_Blank_ V) (by kernel_rfl) (calls_nil rfl)) rfl rfl rfl Tryz.func264
theorem soundpounceref02_Trim_ (V : Ev) (hV : V.OK) : CallSound Tryz.prog (env V []) 254 ⟨sigpounceref02_Trim_, pounceref02_Trim_ V⟩ := by
  rw [← rawpounceref02_Trim_ V]
  exact aFn_sound (E2 := env V []) (envOK V hV (callspounceref02_Trim_ V) (by kernel_rfl) (calls_cons ((cs_cons (soundpounceref02_Blank_ V hV) cs_nil)) (calls_nil rfl))) rfl rfl rfl Tryz.func254
theorem soundpounceref05_rest_ (V : Ev) (hV : V.OK) : CallSound Tryz.prog (env V []) 229 ⟨sigpounceref05_rest_, pounceref05_rest_ V⟩ := by
  rw [← rawpounceref05_rest_ V]
  exact aFn_sound (E2 := env V []) (envOK V hV (callspounceref05_rest_ V) (by kernel_rfl) (calls_cons ((cs_cons (soundpounceref02_Trim_ V hV) cs_nil)) (calls_nil rfl))) rfl rfl rfl Tryz.func229
theorem soundpounceref05_Text_ (V : Ev) (hV : V.OK) : CallSound Tryz.prog (env V []) 230 ⟨sigpounceref05_Text_, pounceref05_Text_ V⟩ := by
  rw [← rawpounceref05_Text_ V]
  exact aFn_sound (E2 := env V []) (envOK V hV (callspounceref05_Text_ V) (by kernel_rfl) (calls_cons ((cs_cons (soundpounceref05_Digits_ V hV) cs_nil)) (calls_nil rfl))) rfl rfl rfl Tryz.func230
theorem soundpounceref05_visible_ (V : Ev) (hV : V.OK) : CallSound Tryz.prog (env V []) 232 ⟨sigpounceref05_visible_, pounceref05_visible_ V⟩ := by
  rw [← rawpounceref05_visible_ V]
  exact aFn_sound (E2 := env V []) (envOK V hV (callspounceref05_visible_ V) (by kernel_rfl) (calls_nil rfl)) rfl rfl rfl Tryz.func232
theorem soundpounceref05_Pieces_ (V : Ev) (hV : V.OK) : CallSound Tryz.prog (env V []) 255 ⟨sigpounceref05_Pieces_, pounceref05_Pieces_ V⟩ := by
  rw [← rawpounceref05_Pieces_ V]
  exact aFn_sound (E2 := env V []) (envOK V hV (callspounceref05_Pieces_ V) (by kernel_rfl) (calls_nil rfl)) rfl rfl rfl Tryz.func255
theorem soundpounceref05_clean_ (V : Ev) (hV : V.OK) : CallSound Tryz.prog (env V []) 231 ⟨sigpounceref05_clean_, pounceref05_clean_ V⟩ := by
  rw [← rawpounceref05_clean_ V]
  exact aFn_sound (E2 := env V []) (envOK V hV (callspounceref05_clean_ V) (by kernel_rfl) (calls_cons ((cs_cons (soundpounceref05_visible_ V hV) cs_nil)) (calls_cons ((cs_cons (soundpounceref05_Pieces_ V hV) cs_nil)) (calls_nil rfl)))) rfl rfl rfl Tryz.func231
theorem soundpounceref05_Right_ (V : Ev) (hV : V.OK) : CallSound Tryz.prog (env V []) 193 ⟨sigpounceref05_Right_, pounceref05_Right_ V⟩ := by
  rw [← rawpounceref05_Right_ V]
  exact aFn_sound (E2 := env V []) (envOK V hV (callspounceref05_Right_ V) (by kernel_rfl) (calls_cons ((cs_cons (soundpounceref05_Scheme_ V hV) cs_nil)) (calls_cons ((cs_cons (soundpounceref05_Host_ V hV) cs_nil)) (calls_cons ((cs_cons (soundpounceref05_Default_ V hV) cs_nil)) (calls_cons ((cs_cons (soundpounceref05_rest_ V hV) cs_nil)) (calls_cons ((cs_cons (soundpounceref05_Text_ V hV) cs_nil)) (calls_cons ((cs_cons (soundpounceref05_clean_ V hV) cs_nil)) (calls_cons ((cs_cons (soundpounceref05_visible_ V hV) cs_nil)) (calls_nil rfl))))))))) rfl rfl rfl Tryz.func193
theorem soundpounceref10_Scheme_ (V : Ev) (hV : V.OK) : CallSound Tryz.prog (env V []) 194 ⟨sigpounceref10_Scheme_, pounceref10_Scheme_ V⟩ := by
  rw [← rawpounceref10_Scheme_ V]
  exact aFn_sound (E2 := env V []) (envOK V hV (callspounceref10_Scheme_ V) (by kernel_rfl) (calls_nil rfl)) rfl rfl rfl Tryz.func194
theorem soundpounceref07_Port_ (V : Ev) (hV : V.OK) : CallSound Tryz.prog (env V []) 236 ⟨sigpounceref07_Port_, pounceref07_Port_ V⟩ := by
  rw [← rawpounceref07_Port_ V]
  exact aFn_sound (E2 := env V []) (envOK V hV (callspounceref07_Port_ V) (by kernel_rfl) (calls_cons ((cs_cons (soundpounceref05_Default_ V hV) cs_nil)) (calls_nil rfl))) rfl rfl rfl Tryz.func236
theorem soundpounceref07_Of_ (V : Ev) (hV : V.OK) : CallSound Tryz.prog (env V []) 234 ⟨sigpounceref07_Of_, pounceref07_Of_ V⟩ := by
  rw [← rawpounceref07_Of_ V]
  exact aFn_sound (E2 := env V []) (envOK V hV (callspounceref07_Of_ V) (by kernel_rfl) (calls_cons ((cs_cons (soundpounceref05_Right_ V hV) cs_nil)) (calls_cons ((cs_cons (soundpounceref07_Port_ V hV) cs_nil)) (calls_nil rfl)))) rfl rfl rfl Tryz.func234
theorem soundpounceref07_Same_ (V : Ev) (hV : V.OK) : CallSound Tryz.prog (env V []) 233 ⟨sigpounceref07_Same_, pounceref07_Same_ V⟩ := by
  rw [← rawpounceref07_Same_ V]
  exact aFn_sound (E2 := env V []) (envOK V hV (callspounceref07_Same_ V) (by kernel_rfl) (calls_nil rfl)) rfl rfl rfl Tryz.func233
theorem soundpounceref10_self_ (V : Ev) (hV : V.OK) : CallSound Tryz.prog (env V []) 195 ⟨sigpounceref10_self_, pounceref10_self_ V⟩ := by
  rw [← rawpounceref10_self_ V]
  exact aFn_sound (E2 := env V []) (envOK V hV (callspounceref10_self_ V) (by kernel_rfl) (calls_cons ((cs_cons (soundpounceref05_Right_ V hV) cs_nil)) (calls_cons ((cs_cons (soundpounceref10_Scheme_ V hV) cs_nil)) (calls_cons ((cs_cons (soundpounceref07_Same_ V hV) cs_nil)) (calls_cons ((cs_cons (soundpounceref07_Of_ V hV) cs_nil)) (calls_nil rfl)))))) rfl rfl rfl Tryz.func195
theorem soundpounceref10_ends_ (V : Ev) (hV : V.OK) : CallSound Tryz.prog (env V []) 235 ⟨sigpounceref10_ends_, pounceref10_ends_ V⟩ := by
  rw [← rawpounceref10_ends_ V]
  exact aFn_sound (E2 := env V []) (envOK V hV (callspounceref10_ends_ V) (by kernel_rfl) (calls_nil rfl)) rfl rfl rfl Tryz.func235
theorem soundpounceref10_Host_ (V : Ev) (hV : V.OK) : CallSound Tryz.prog (env V []) 196 ⟨sigpounceref10_Host_, pounceref10_Host_ V⟩ := by
  rw [← rawpounceref10_Host_ V]
  exact aFn_sound (E2 := env V []) (envOK V hV (callspounceref10_Host_ V) (by kernel_rfl) (calls_cons ((cs_cons (soundpounceref02_Lower_ V hV) cs_nil)) (calls_cons ((cs_cons (soundpounceref10_ends_ V hV) cs_nil)) (calls_nil rfl)))) rfl rfl rfl Tryz.func196
theorem soundpounceref10_Port_ (V : Ev) (hV : V.OK) : CallSound Tryz.prog (env V []) 197 ⟨sigpounceref10_Port_, pounceref10_Port_ V⟩ := by
  rw [← rawpounceref10_Port_ V]
  exact aFn_sound (E2 := env V []) (envOK V hV (callspounceref10_Port_ V) (by kernel_rfl) (calls_cons ((cs_cons (soundpounceref05_Default_ V hV) cs_nil)) (calls_cons ((cs_cons (soundpounceref07_Port_ V hV) cs_nil)) (calls_nil rfl)))) rfl rfl rfl Tryz.func197
theorem soundpounceref10_Path_ (V : Ev) (hV : V.OK) : CallSound Tryz.prog (env V []) 198 ⟨sigpounceref10_Path_, pounceref10_Path_ V⟩ := by
  rw [← rawpounceref10_Path_ V]
  exact aFn_sound (E2 := env V []) (envOK V hV (callspounceref10_Path_ V) (by kernel_rfl) (calls_nil rfl)) rfl rfl rfl Tryz.func198
theorem soundpounceref10_Url_ (V : Ev) (hV : V.OK) : CallSound Tryz.prog (env V []) 143 ⟨sigpounceref10_Url_, pounceref10_Url_ V⟩ := by
  rw [← rawpounceref10_Url_ V]
  exact aFn_sound (E2 := env V []) (envOK V hV (callspounceref10_Url_ V) (by kernel_rfl) (calls_cons ((cs_cons (soundpounceref05_Right_ V hV) cs_nil)) (calls_cons ((cs_cons (soundpounceref10_Scheme_ V hV) cs_nil)) (calls_cons ((cs_cons (soundpounceref10_self_ V hV) cs_nil)) (calls_cons ((cs_cons (soundpounceref10_Host_ V hV) cs_nil)) (calls_cons ((cs_cons (soundpounceref10_Port_ V hV) cs_nil)) (calls_cons ((cs_cons (soundpounceref10_Path_ V hV) cs_nil)) (calls_nil rfl)))))))) rfl rfl rfl Tryz.func143
theorem soundpounceref11_Url_ (V : Ev) (hV : V.OK) : CallSound Tryz.prog (env V []) 102 ⟨sigpounceref11_Url_, pounceref11_Url_ V⟩ := by
  rw [← rawpounceref11_Url_ V]
  exact aFn_sound (E2 := env V []) (envOK V hV (callspounceref11_Url_ V) (by kernel_rfl) (calls_cons ((cs_cons (soundpounceref10_Url_ V hV) cs_nil)) (calls_nil rfl))) rfl rfl rfl Tryz.func102
theorem soundpounceref11_Fetch_ (V : Ev) (hV : V.OK) : CallSound Tryz.prog (env V []) 66 ⟨sigpounceref11_Fetch_, pounceref11_Fetch_ V⟩ := by
  rw [← rawpounceref11_Fetch_ V]
  exact aFn_sound (E2 := env V []) (envOK V hV (callspounceref11_Fetch_ V) (by kernel_rfl) (calls_cons ((cs_cons (soundpounceref11_Has_ V hV) cs_nil)) (calls_cons ((cs_cons (soundpounceref11_Nonce_ V hV) cs_nil)) (calls_cons ((cs_cons (soundpounceref11_Url_ V hV) cs_nil)) (calls_nil rfl))))) rfl rfl rfl Tryz.func66
theorem soundpounceref11_Eval_ (V : Ev) (hV : V.OK) : CallSound Tryz.prog (env V []) 67 ⟨sigpounceref11_Eval_, pounceref11_Eval_ V⟩ := by
  rw [← rawpounceref11_Eval_ V]
  exact aFn_sound (E2 := env V []) (envOK V hV (callspounceref11_Eval_ V) (by kernel_rfl) (calls_cons ((cs_cons (soundpounceref11_Has_ V hV) cs_nil)) (calls_nil rfl))) rfl rfl rfl Tryz.func67
theorem soundpounceref11_Loose_ (V : Ev) (hV : V.OK) : CallSound Tryz.prog (env V []) 103 ⟨sigpounceref11_Loose_, pounceref11_Loose_ V⟩ := by
  rw [← rawpounceref11_Loose_ V]
  exact aFn_sound (E2 := env V []) (envOK V hV (callspounceref11_Loose_ V) (by kernel_rfl) (calls_cons ((cs_cons (soundpounceref11_Has_ V hV) cs_nil)) (calls_nil rfl))) rfl rfl rfl Tryz.func103
theorem soundpounceref03_four_ (V : Ev) (hV : V.OK) : CallSound Tryz.prog (env V []) 199 ⟨sigpounceref03_four_, pounceref03_four_ V⟩ := by
  rw [← rawpounceref03_four_ V]
  exact aFn_sound (E2 := env V []) (envOK V hV (callspounceref03_four_ V) (by kernel_rfl) (calls_nil rfl)) rfl rfl rfl Tryz.func199
theorem soundpounceref03_Of_ (V : Ev) (hV : V.OK) : CallSound Tryz.prog (env V []) 144 ⟨sigpounceref03_Of_, pounceref03_Of_ V⟩ := by
  rw [← rawpounceref03_Of_ V]
  exact aFn_sound (E2 := env V []) (envOK V hV (callspounceref03_Of_ V) (by kernel_rfl) (calls_cons ((cs_cons (soundpounceref03_four_ V hV) cs_nil)) (calls_nil rfl))) rfl rfl rfl Tryz.func144
theorem soundpounceref11_Hash_ (V : Ev) (hV : V.OK) : CallSound Tryz.prog (env V []) 104 ⟨sigpounceref11_Hash_, pounceref11_Hash_ V⟩ := by
  rw [← rawpounceref11_Hash_ V]
  exact aFn_sound (E2 := env V []) (envOK V hV (callspounceref11_Hash_ V) (by kernel_rfl) (calls_cons ((cs_cons (soundpounceref11_text_ V hV) cs_nil)) (calls_cons ((cs_cons (soundpounceref03_Of_ V hV) cs_nil)) (calls_nil rfl)))) rfl rfl rfl Tryz.func104
theorem soundpounceref11_Inline_ (V : Ev) (hV : V.OK) : CallSound Tryz.prog (env V []) 68 ⟨sigpounceref11_Inline_, pounceref11_Inline_ V⟩ := by
  rw [← rawpounceref11_Inline_ V]
  exact aFn_sound (E2 := env V []) (envOK V hV (callspounceref11_Inline_ V) (by kernel_rfl) (calls_cons ((cs_cons (soundpounceref11_Has_ V hV) cs_nil)) (calls_cons ((cs_cons (soundpounceref11_Nonce_ V hV) cs_nil)) (calls_cons ((cs_cons (soundpounceref11_Loose_ V hV) cs_nil)) (calls_cons ((cs_cons (soundpounceref11_Hash_ V hV) cs_nil)) (calls_nil rfl)))))) rfl rfl rfl Tryz.func68
theorem soundpounceref12_One_ (V : Ev) (hV : V.OK) : CallSound Tryz.prog (env V []) 40 ⟨sigpounceref12_One_, pounceref12_One_ V⟩ := by
  rw [← rawpounceref12_One_ V]
  exact aFn_sound (E2 := env V []) (envOK V hV (callspounceref12_One_ V) (by kernel_rfl) (calls_cons ((cs_cons (soundpounceref12_Effective_ V hV) cs_nil)) (calls_cons ((cs_cons (soundpounceref11_Fetch_ V hV) cs_nil)) (calls_cons ((cs_cons (soundpounceref11_Eval_ V hV) cs_nil)) (calls_cons ((cs_cons (soundpounceref11_Inline_ V hV) cs_nil)) (calls_nil rfl)))))) rfl rfl rfl Tryz.func40
theorem soundpouncelaw12_ChainOne_ (V : Ev) (hV : V.OK) : CallSound Tryz.prog (env V []) 10 ⟨sigpouncelaw12_ChainOne_, pouncelaw12_ChainOne_ V⟩ := by
  rw [← rawpouncelaw12_ChainOne_ V]
  exact aFn_sound (E2 := env V []) (envOK V hV (callspouncelaw12_ChainOne_ V) (by kernel_rfl) (calls_cons ((cs_cons (soundpounceref08_Own_ V hV) cs_nil)) (calls_cons ((cs_cons (soundpouncelaw12_large_ V hV) cs_nil)) (calls_cons ((cs_cons (soundchain_One_ V hV) cs_nil)) (calls_cons ((cs_cons (soundpounceref12_One_ V hV) cs_nil)) (calls_nil rfl)))))) rfl rfl rfl Tryz.func10
theorem soundpouncelaw12_ChainAll_ (V : Ev) (hV : V.OK) : CallSound Tryz.prog (env V []) 11 ⟨sigpouncelaw12_ChainAll_, pouncelaw12_ChainAll_ V⟩ := by
  rw [← rawpouncelaw12_ChainAll_ V]
  exact aFn_sound (E2 := env V []) (envOK V hV (callspouncelaw12_ChainAll_ V) (by kernel_rfl) (calls_cons ((cs_cons (soundpounceref08_Own_ V hV) cs_nil)) (calls_cons ((cs_cons (soundpouncelaw12_large_ V hV) cs_nil)) (calls_nil rfl)))) rfl rfl rfl Tryz.func11
theorem soundpouncelaw12_ChainMore_ (V : Ev) (hV : V.OK) : CallSound Tryz.prog (env V []) 12 ⟨sigpouncelaw12_ChainMore_, pouncelaw12_ChainMore_ V⟩ := by
  rw [← rawpouncelaw12_ChainMore_ V]
  exact aFn_sound (E2 := env V []) (envOK V hV (callspouncelaw12_ChainMore_ V) (by kernel_rfl) (calls_cons ((cs_cons (soundpounceref08_Big_ V hV) cs_nil)) (calls_cons ((cs_cons (soundpouncelaw12_large_ V hV) cs_nil)) (calls_nil rfl)))) rfl rfl rfl Tryz.func12
theorem soundpouncelaw12_ChainFree_ (V : Ev) (hV : V.OK) : CallSound Tryz.prog (env V []) 13 ⟨sigpouncelaw12_ChainFree_, pouncelaw12_ChainFree_ V⟩ := by
  rw [← rawpouncelaw12_ChainFree_ V]
  exact aFn_sound (E2 := env V []) (envOK V hV (callspouncelaw12_ChainFree_ V) (by kernel_rfl) (calls_cons ((cs_cons (soundchain_Effective_ V hV) cs_nil)) (calls_cons ((cs_cons (soundchain_Names_ V hV) cs_nil)) (calls_cons ((cs_cons (soundpouncelaw12_large_ V hV) cs_nil)) (calls_cons ((cs_cons (soundchain_One_ V hV) cs_nil)) (calls_cons ((cs_cons (soundheader_Find_ V hV) cs_nil)) (calls_nil rfl))))))) rfl rfl rfl Tryz.func13
theorem soundpouncelaw12_ChainReports_ (V : Ev) (hV : V.OK) : CallSound Tryz.prog (env V []) 14 ⟨sigpouncelaw12_ChainReports_, pouncelaw12_ChainReports_ V⟩ := by
  rw [← rawpouncelaw12_ChainReports_ V]
  exact aFn_sound (E2 := env V []) (envOK V hV (callspouncelaw12_ChainReports_ V) (by kernel_rfl) (calls_cons ((cs_cons (soundpouncelaw12_large_ V hV) cs_nil)) (calls_nil rfl))) rfl rfl rfl Tryz.func14
theorem soundpouncetop_long_ (V : Ev) (hV : V.OK) : CallSound Tryz.prog (env V []) 15 ⟨sigpouncetop_long_, pouncetop_long_ V⟩ := by
  rw [← rawpouncetop_long_ V]
  exact aFn_sound (E2 := env V []) (envOK V hV (callspouncetop_long_ V) (by kernel_rfl) (calls_nil rfl)) rfl rfl rfl Tryz.func15
theorem soundpouncetop_TopMarks_ (V : Ev) (hV : V.OK) : CallSound Tryz.prog (env V []) 3 ⟨sigpouncetop_TopMarks_, pouncetop_TopMarks_ V⟩ := by
  rw [← rawpouncetop_TopMarks_ V]
  exact aFn_sound (E2 := env V []) (envOK V hV (callspouncetop_TopMarks_ V) (by kernel_rfl) (calls_cons ((cs_cons (soundpouncetop_long_ V hV) cs_nil)) (calls_cons ((cs_cons (soundbase_Encode_ V hV) cs_nil)) (calls_cons ((cs_cons (soundmark_Of_ V hV) cs_nil)) (calls_nil rfl))))) rfl rfl rfl Tryz.func3
end Go.En.Pl
