/- Text S of this seat: written by a program of ours, or by hand; checked by Lean. -/
import Derived.Test.YtgenjkaccmjfkaaGreatDoorG
import Derived.Test.YtgenjkaccmjfkaaGreatDoorLay
set_option linter.unusedVariables false
namespace Go.En.Pl
open Go.Proofs
theorem eqsOK : ∀ t, eqs.contains t = true → EqTy Tryz.prog t :=
  (eqs_cons ⟨by kernel_rfl, by kernel_rfl, by kernel_rfl, by kernel_rfl⟩ (eqs_cons ⟨by kernel_rfl, by kernel_rfl, by kernel_rfl, by kernel_rfl⟩ eqs_nil))
theorem extsOK : ∀ f x, exts.lookup f = some x → ExtOK Tryz.prog f x :=
  (exts_cons (ext_indexByte Tryz.func162 (by kernel_rfl) (by kernel_rfl) (by kernel_rfl) (by kernel_rfl)) exts_nil)
theorem envOK (V : Ev) (hV : V.OK) (l : List (FuncId × List CSpec)) (h1 : l.all (fun p => EnterOK Tryz.prog p.1) = true) (h2 : ∀ g s, s ∈ ((l.lookup g).getD []) → CallSound Tryz.prog (env V []) g s) : EnvOK Tryz.prog (env V l) where
  types := TypesOK.of_tab rfl (tabOK V l) eqsOK
  calls := fun g s hs => (h2 g s hs).env rfl rfl rfl
  mixed := by kernel_rfl
  ext := fun f h => extsOK f _ h rfl
  it := hV.it
  enters := enters_of_all h1

theorem soundfold_Lower_ (V : Ev) (hV : V.OK) : CallSound Tryz.prog (env V []) 25 ⟨sigfold_Lower_, fold_Lower_ V⟩ := by
  rw [← rawfold_Lower_ V]
  exact aFn_sound (E2 := env V []) (envOK V hV (callsfold_Lower_ V) (by kernel_rfl) (calls_nil rfl)) rfl rfl rfl Tryz.func25
theorem soundistringslite_HasPrefix_ (V : Ev) (hV : V.OK) : CallSound Tryz.prog (env V []) 127 ⟨sigistringslite_HasPrefix_, istringslite_HasPrefix_ V⟩ := by
  rw [← rawistringslite_HasPrefix_ V]
  exact aFn_sound (E2 := env V []) (envOK V hV (callsistringslite_HasPrefix_ V) (by kernel_rfl) (calls_nil rfl)) rfl rfl rfl Tryz.func127
theorem soundstrings_HasPrefix_ (V : Ev) (hV : V.OK) : CallSound Tryz.prog (env V []) 86 ⟨sigstrings_HasPrefix_, strings_HasPrefix_ V⟩ := by
  rw [← rawstrings_HasPrefix_ V]
  exact aFn_sound (E2 := env V []) (envOK V hV (callsstrings_HasPrefix_ V) (by kernel_rfl) (calls_cons ((cs_cons (soundistringslite_HasPrefix_ V hV) cs_nil)) (calls_nil rfl))) rfl rfl rfl Tryz.func86
theorem soundistringslite_HasSuffix_ (V : Ev) (hV : V.OK) : CallSound Tryz.prog (env V []) 237 ⟨sigistringslite_HasSuffix_, istringslite_HasSuffix_ V⟩ := by
  rw [← rawistringslite_HasSuffix_ V]
  exact aFn_sound (E2 := env V []) (envOK V hV (callsistringslite_HasSuffix_ V) (by kernel_rfl) (calls_nil rfl)) rfl rfl rfl Tryz.func237
theorem soundistringslite_TrimSuffix_ (V : Ev) (hV : V.OK) : CallSound Tryz.prog (env V []) 200 ⟨sigistringslite_TrimSuffix_, istringslite_TrimSuffix_ V⟩ := by
  rw [← rawistringslite_TrimSuffix_ V]
  exact aFn_sound (E2 := env V []) (envOK V hV (callsistringslite_TrimSuffix_ V) (by kernel_rfl) (calls_cons ((cs_cons (soundistringslite_HasSuffix_ V hV) cs_nil)) (calls_nil rfl))) rfl rfl rfl Tryz.func200
theorem soundstrings_TrimSuffix_ (V : Ev) (hV : V.OK) : CallSound Tryz.prog (env V []) 151 ⟨sigstrings_TrimSuffix_, strings_TrimSuffix_ V⟩ := by
  rw [← rawstrings_TrimSuffix_ V]
  exact aFn_sound (E2 := env V []) (envOK V hV (callsstrings_TrimSuffix_ V) (by kernel_rfl) (calls_cons ((cs_cons (soundistringslite_TrimSuffix_ V hV) cs_nil)) (calls_nil rfl))) rfl rfl rfl Tryz.func151
theorem soundbase_head_ (V : Ev) (hV : V.OK) : CallSound Tryz.prog (env V []) 114 ⟨sigbase_head_, base_head_ V⟩ := by
  rw [← rawbase_head_ V]
  exact aFn_sound (E2 := env V []) (envOK V hV (callsbase_head_ V) (by kernel_rfl) (calls_cons ((cs_cons (soundstrings_TrimSuffix_ V hV) cs_nil)) (calls_nil rfl))) rfl rfl rfl Tryz.func114
theorem soundistringslite_IndexByte_ (V : Ev) (hV : V.OK) : CallSound Tryz.prog (env V []) 129 ⟨sigistringslite_IndexByte_, istringslite_IndexByte_ V⟩ := by
  rw [← rawistringslite_IndexByte_ V]
  exact aFn_sound (E2 := env V []) (envOK V hV (callsistringslite_IndexByte_ V) (by kernel_rfl) (calls_nil rfl)) rfl rfl rfl Tryz.func129
theorem soundstrings_IndexByte_ (V : Ev) (hV : V.OK) : CallSound Tryz.prog (env V []) 89 ⟨sigstrings_IndexByte_, strings_IndexByte_ V⟩ := by
  rw [← rawstrings_IndexByte_ V]
  exact aFn_sound (E2 := env V []) (envOK V hV (callsstrings_IndexByte_ V) (by kernel_rfl) (calls_cons ((cs_cons (soundistringslite_IndexByte_ V hV) cs_nil)) (calls_nil rfl))) rfl rfl rfl Tryz.func89
theorem soundbase_value_ (V : Ev) (hV : V.OK) : CallSound Tryz.prog (env V []) 115 ⟨sigbase_value_, base_value_ V⟩ := by
  rw [← rawbase_value_ V]
  exact aFn_sound (E2 := env V []) (envOK V hV (callsbase_value_ V) (by kernel_rfl) (calls_cons ((cs_cons (soundstrings_IndexByte_ V hV) cs_nil)) (calls_nil rfl))) rfl rfl rfl Tryz.func115
theorem soundbase_Form_ (V : Ev) (hV : V.OK) : CallSound Tryz.prog (env V []) 74 ⟨sigbase_Form_, base_Form_ V⟩ := by
  rw [← rawbase_Form_ V]
  exact aFn_sound (E2 := env V []) (envOK V hV (callsbase_Form_ V) (by kernel_rfl) (calls_cons ((cs_cons (soundbase_head_ V hV) cs_nil)) (calls_cons ((cs_cons (soundbase_value_ V hV) cs_nil)) (calls_nil rfl)))) rfl rfl rfl Tryz.func74
theorem soundbase_Decode_ (V : Ev) (hV : V.OK) : CallSound Tryz.prog (env V []) 87 ⟨sigbase_Decode_, base_Decode_ V⟩ := by
  rw [← rawbase_Decode_ V]
  exact aFn_sound (E2 := env V []) (envOK V hV (callsbase_Decode_ V) (by kernel_rfl) (calls_cons ((cs_cons (soundbase_Form_ V hV) cs_nil)) (calls_cons ((cs_cons (soundbase_head_ V hV) cs_nil)) (calls_cons ((cs_cons (soundbase_value_ V hV) cs_nil)) (calls_nil rfl))))) rfl rfl rfl Tryz.func87
theorem soundsource_cutter_quoted_2b7 (V : Ev) (hV : V.OK) : CallSound Tryz.prog (env V []) 56 ⟨sigsource_cutter_quoted_2b7, source_cutter_quoted_2b7 V⟩ := by
  rw [← rawsource_cutter_quoted_2b7 V]
  exact aFn_sound (E2 := env V []) (envOK V hV (callssource_cutter_quoted_2b7 V) (by kernel_rfl) (calls_cons ((cs_cons (soundfold_Lower_ V hV) cs_nil)) (calls_cons ((cs_cons (soundstrings_HasPrefix_ V hV) cs_nil)) (calls_cons ((cs_cons (soundbase_Decode_ V hV) cs_nil)) (calls_nil rfl))))) rfl rfl rfl Tryz.func56
theorem soundistringslite_Index_ (V : Ev) : CallSound Tryz.prog (env V []) 161 ⟨sigistringslite_Index_, istringslite_Index_ V⟩ := given_index layIndex rfl
theorem soundistringslite_Cut_ (V : Ev) (hV : V.OK) : CallSound Tryz.prog (env V []) 128 ⟨sigistringslite_Cut_, istringslite_Cut_ V⟩ := by
  rw [← rawistringslite_Cut_ V]
  exact aFn_sound (E2 := env V []) (envOK V hV (callsistringslite_Cut_ V) (by kernel_rfl) (calls_cons ((cs_cons (soundistringslite_Index_ V) cs_nil)) (calls_nil rfl))) rfl rfl rfl Tryz.func128
theorem soundstrings_Cut_ (V : Ev) (hV : V.OK) : CallSound Tryz.prog (env V []) 88 ⟨sigstrings_Cut_, strings_Cut_ V⟩ := by
  rw [← rawstrings_Cut_ V]
  exact aFn_sound (E2 := env V []) (envOK V hV (callsstrings_Cut_ V) (by kernel_rfl) (calls_cons ((cs_cons (soundistringslite_Cut_ V hV) cs_nil)) (calls_nil rfl))) rfl rfl rfl Tryz.func88
theorem soundstrings_Trim_ (V : Ev) : CallSound Tryz.prog (env V []) 130 ⟨sigstrings_Trim_, strings_Trim_ V⟩ := given_trim layTrim (by kernel_rfl)
theorem soundistrconv_lower_ (V : Ev) (hV : V.OK) : CallSound Tryz.prog (env V []) 262 ⟨sigistrconv_lower_, istrconv_lower_ V⟩ := by
  rw [← rawistrconv_lower_ V]
  exact aFn_sound (E2 := env V []) (envOK V hV (callsistrconv_lower_ V) (by kernel_rfl) (calls_nil rfl)) rfl rfl rfl Tryz.func262
theorem soundistrconv_underscoreOK_ (V : Ev) (hV : V.OK) : CallSound Tryz.prog (env V []) 263 ⟨sigistrconv_underscoreOK_, istrconv_underscoreOK_ V⟩ := by
  rw [← rawistrconv_underscoreOK_ V]
  exact aFn_sound (E2 := env V []) (envOK V hV (callsistrconv_underscoreOK_ V) (by kernel_rfl) (calls_cons ((cs_cons (soundistrconv_lower_ V hV) cs_nil)) (calls_nil rfl))) rfl rfl rfl Tryz.func263
theorem soundistrconv_ParseUint_ (V : Ev) (hV : V.OK) : CallSound Tryz.prog (env V []) 250 ⟨sigistrconv_ParseUint_, istrconv_ParseUint_ V⟩ := by
  rw [← rawistrconv_ParseUint_ V]
  exact aFn_sound (E2 := env V []) (envOK V hV (callsistrconv_ParseUint_ V) (by kernel_rfl) (calls_cons ((cs_cons (soundistrconv_lower_ V hV) cs_nil)) (calls_cons ((cs_cons (soundistrconv_underscoreOK_ V hV) cs_nil)) (calls_nil rfl)))) rfl rfl rfl Tryz.func250
theorem soundistrconv_ParseInt_ (V : Ev) (hV : V.OK) : CallSound Tryz.prog (env V []) 219 ⟨sigistrconv_ParseInt_, istrconv_ParseInt_ V⟩ := by
  rw [← rawistrconv_ParseInt_ V]
  exact aFn_sound (E2 := env V []) (envOK V hV (callsistrconv_ParseInt_ V) (by kernel_rfl) (calls_cons ((cs_cons (soundistrconv_ParseUint_ V hV) cs_nil)) (calls_nil rfl))) rfl rfl rfl Tryz.func219
theorem soundistrconv_Atoi_ (V : Ev) (hV : V.OK) : CallSound Tryz.prog (env V []) 170 ⟨sigistrconv_Atoi_, istrconv_Atoi_ V⟩ := by
  rw [← rawistrconv_Atoi_ V]
  exact aFn_sound (E2 := env V []) (envOK V hV (callsistrconv_Atoi_ V) (by kernel_rfl) (calls_cons ((cs_cons (soundistrconv_ParseInt_ V hV) cs_nil)) (calls_nil rfl))) rfl rfl rfl Tryz.func170
theorem soundistringslite_Clone_ (V : Ev) (hV : V.OK) : CallSound Tryz.prog (env V []) 251 ⟨sigistringslite_Clone_, istringslite_Clone_ V⟩ := by
  rw [← rawistringslite_Clone_ V]
  exact aFn_sound (E2 := env V []) (envOK V hV (callsistringslite_Clone_ V) (by kernel_rfl) (calls_nil rfl)) rfl rfl rfl Tryz.func251
theorem soundstrconv_syntaxError_d9f (V : Ev) (hV : V.OK) : CallSound Tryz.prog (env V []) 220 ⟨sigstrconv_syntaxError_d9f, strconv_syntaxError_d9f V⟩ := by
  rw [← rawstrconv_syntaxError_d9f V]
  exact aFn_sound (E2 := env V []) (envOK V hV (callsstrconv_syntaxError_d9f V) (by kernel_rfl) (calls_cons ((cs_cons (soundistringslite_Clone_ V hV) cs_nil)) (calls_nil rfl))) rfl rfl rfl Tryz.func220
theorem soundstrconv_rangeError_d9f (V : Ev) (hV : V.OK) : CallSound Tryz.prog (env V []) 221 ⟨sigstrconv_rangeError_d9f, strconv_rangeError_d9f V⟩ := by
  rw [← rawstrconv_rangeError_d9f V]
  exact aFn_sound (E2 := env V []) (envOK V hV (callsstrconv_rangeError_d9f V) (by kernel_rfl) (calls_cons ((cs_cons (soundistringslite_Clone_ V hV) cs_nil)) (calls_nil rfl))) rfl rfl rfl Tryz.func221
theorem soundistrconv_Itoa_ (V : Ev) : CallSound Tryz.prog (env V []) 118 ⟨sigistrconv_Itoa_, istrconv_Itoa_ V⟩ := given_itoa (g := 3) (t := 207) layItoa (by kernel_rfl) (by kernel_rfl)
theorem soundstrconv_Itoa_ (V : Ev) (hV : V.OK) : CallSound Tryz.prog (env V []) 79 ⟨sigstrconv_Itoa_, strconv_Itoa_ V⟩ := by
  rw [← rawstrconv_Itoa_ V]
  exact aFn_sound (E2 := env V []) (envOK V hV (callsstrconv_Itoa_ V) (by kernel_rfl) (calls_cons ((cs_cons (soundistrconv_Itoa_ V) cs_nil)) (calls_nil rfl))) rfl rfl rfl Tryz.func79
theorem sounderrors_New_ (V : Ev) (hV : V.OK) : CallSound Tryz.prog (env V []) 252 ⟨sigerrors_New_, errors_New_ V⟩ := by
  rw [← rawerrors_New_ V]
  exact aFn_sound (E2 := env V []) (envOK V hV (callserrors_New_ V) (by kernel_rfl) (calls_nil rfl)) rfl rfl rfl Tryz.func252
theorem soundstrconv_baseError_cf4 (V : Ev) (hV : V.OK) : CallSound Tryz.prog (env V []) 222 ⟨sigstrconv_baseError_cf4, strconv_baseError_cf4 V⟩ := by
  rw [← rawstrconv_baseError_cf4 V]
  exact aFn_sound (E2 := env V []) (envOK V hV (callsstrconv_baseError_cf4 V) (by kernel_rfl) (calls_cons ((cs_cons (soundstrconv_Itoa_ V hV) cs_nil)) (calls_cons ((cs_cons (soundistringslite_Clone_ V hV) cs_nil)) (calls_cons ((cs_cons (sounderrors_New_ V hV) cs_nil)) (calls_nil rfl))))) rfl rfl rfl Tryz.func222
theorem soundstrconv_bitSizeError_cf4 (V : Ev) (hV : V.OK) : CallSound Tryz.prog (env V []) 223 ⟨sigstrconv_bitSizeError_cf4, strconv_bitSizeError_cf4 V⟩ := by
  rw [← rawstrconv_bitSizeError_cf4 V]
  exact aFn_sound (E2 := env V []) (envOK V hV (callsstrconv_bitSizeError_cf4 V) (by kernel_rfl) (calls_cons ((cs_cons (soundstrconv_Itoa_ V hV) cs_nil)) (calls_cons ((cs_cons (soundistringslite_Clone_ V hV) cs_nil)) (calls_cons ((cs_cons (sounderrors_New_ V hV) cs_nil)) (calls_nil rfl))))) rfl rfl rfl Tryz.func223
theorem soundstrconv_toError_666 (V : Ev) (hV : V.OK) : CallSound Tryz.prog (env V []) 171 ⟨sigstrconv_toError_666, strconv_toError_666 V⟩ := by
  rw [← rawstrconv_toError_666 V]
  exact aFn_sound (E2 := env V []) (envOK V hV (callsstrconv_toError_666 V) (by kernel_rfl) (calls_cons ((cs_cons (soundstrconv_syntaxError_d9f V hV) cs_nil)) (calls_cons ((cs_cons (soundstrconv_rangeError_d9f V hV) cs_nil)) (calls_cons ((cs_cons (soundstrconv_baseError_cf4 V hV) cs_nil)) (calls_cons ((cs_cons (soundstrconv_bitSizeError_cf4 V hV) cs_nil)) (calls_nil rfl)))))) rfl rfl rfl Tryz.func171
theorem soundstrconv_Atoi_ (V : Ev) (hV : V.OK) : CallSound Tryz.prog (env V []) 131 ⟨sigstrconv_Atoi_, strconv_Atoi_ V⟩ := by
  rw [← rawstrconv_Atoi_ V]
  exact aFn_sound (E2 := env V []) (envOK V hV (callsstrconv_Atoi_ V) (by kernel_rfl) (calls_cons ((cs_cons (soundistrconv_Atoi_ V hV) cs_nil)) (calls_cons ((cs_cons (soundstrconv_toError_666 V hV) cs_nil)) (calls_nil rfl)))) rfl rfl rfl Tryz.func131
theorem soundsource_cutter_port_456 (V : Ev) (hV : V.OK) : CallSound Tryz.prog (env V []) 90 ⟨sigsource_cutter_port_456, source_cutter_port_456 V⟩ := by
  rw [← rawsource_cutter_port_456 V]
  exact aFn_sound (E2 := env V []) (envOK V hV (callssource_cutter_port_456 V) (by kernel_rfl) (calls_cons ((cs_cons (soundstrings_Trim_ V) cs_nil)) (calls_cons ((cs_cons (soundstrconv_Atoi_ V hV) cs_nil)) (calls_nil rfl)))) rfl rfl rfl Tryz.func90
theorem soundistringslite_CutPrefix_ (V : Ev) (hV : V.OK) : CallSound Tryz.prog (env V []) 132 ⟨sigistringslite_CutPrefix_, istringslite_CutPrefix_ V⟩ := by
  rw [← rawistringslite_CutPrefix_ V]
  exact aFn_sound (E2 := env V []) (envOK V hV (callsistringslite_CutPrefix_ V) (by kernel_rfl) (calls_cons ((cs_cons (soundistringslite_HasPrefix_ V hV) cs_nil)) (calls_nil rfl))) rfl rfl rfl Tryz.func132
theorem soundstrings_CutPrefix_ (V : Ev) (hV : V.OK) : CallSound Tryz.prog (env V []) 91 ⟨sigstrings_CutPrefix_, strings_CutPrefix_ V⟩ := by
  rw [← rawstrings_CutPrefix_ V]
  exact aFn_sound (E2 := env V []) (envOK V hV (callsstrings_CutPrefix_ V) (by kernel_rfl) (calls_cons ((cs_cons (soundistringslite_CutPrefix_ V hV) cs_nil)) (calls_nil rfl))) rfl rfl rfl Tryz.func91
theorem soundsource_cutter_host_2b7 (V : Ev) (hV : V.OK) : CallSound Tryz.prog (env V []) 57 ⟨sigsource_cutter_host_2b7, source_cutter_host_2b7 V⟩ := by
  rw [← rawsource_cutter_host_2b7 V]
  exact aFn_sound (E2 := env V []) (envOK V hV (callssource_cutter_host_2b7 V) (by kernel_rfl) (calls_cons ((cs_cons (soundfold_Lower_ V hV) cs_nil)) (calls_cons ((cs_cons (soundstrings_Cut_ V hV) cs_nil)) (calls_cons ((cs_cons (soundstrings_IndexByte_ V hV) cs_nil)) (calls_cons ((cs_cons (soundsource_cutter_port_456 V hV) cs_nil)) (calls_cons ((cs_cons (soundstrings_CutPrefix_ V hV) cs_nil)) (calls_nil rfl))))))) rfl rfl rfl Tryz.func57
theorem soundurl_Default_ (V : Ev) (hV : V.OK) : CallSound Tryz.prog (env V []) 116 ⟨sigurl_Default_, url_Default_ V⟩ := by
  rw [← rawurl_Default_ V]
  exact aFn_sound (E2 := env V []) (envOK V hV (callsurl_Default_ V) (by kernel_rfl) (calls_nil rfl)) rfl rfl rfl Tryz.func116
theorem soundurl_letter_ (V : Ev) (hV : V.OK) : CallSound Tryz.prog (env V []) 201 ⟨sigurl_letter_, url_letter_ V⟩ := by
  rw [← rawurl_letter_ V]
  exact aFn_sound (E2 := env V []) (envOK V hV (callsurl_letter_ V) (by kernel_rfl) (calls_nil rfl)) rfl rfl rfl Tryz.func201
theorem soundurl_digit_ (V : Ev) (hV : V.OK) : CallSound Tryz.prog (env V []) 203 ⟨sigurl_digit_, url_digit_ V⟩ := by
  rw [← rawurl_digit_ V]
  exact aFn_sound (E2 := env V []) (envOK V hV (callsurl_digit_ V) (by kernel_rfl) (calls_nil rfl)) rfl rfl rfl Tryz.func203
theorem soundurl_scheme_1_ (V : Ev) (hV : V.OK) : CallSound Tryz.prog (env V []) 202 ⟨sigurl_scheme_1_, url_scheme_1_ V⟩ := by
  rw [← rawurl_scheme_1_ V]
  exact aFn_sound (E2 := env V []) (envOK V hV (callsurl_scheme_1_ V) (by kernel_rfl) (calls_cons ((cs_cons (soundurl_letter_ V hV) cs_nil)) (calls_cons ((cs_cons (soundurl_digit_ V hV) cs_nil)) (calls_nil rfl)))) rfl rfl rfl Tryz.func202
theorem soundurl_all_16d (V : Ev) (hV : V.OK) : CallSound Tryz.prog (env V []) 153 ⟨sigurl_all_16d, url_all_16d V⟩ := by
  rw [← rawurl_all_16d V]
  exact aFn_sound (E2 := env V []) (envOK V hV (callsurl_all_16d V) (by kernel_rfl) (calls_cons ((cs_cons (soundurl_scheme_1_ V hV) cs_nil)) (calls_nil rfl))) rfl rfl rfl Tryz.func153
theorem soundurl_scheme_ (V : Ev) (hV : V.OK) : CallSound Tryz.prog (env V []) 152 ⟨sigurl_scheme_, url_scheme_ V⟩ := by
  rw [← rawurl_scheme_ V]
  exact aFn_sound (E2 := env V []) (envOK V hV (callsurl_scheme_ V) (by kernel_rfl) (calls_cons ((cs_cons (soundurl_all_16d V hV) cs_nil)) (calls_cons ((cs_cons (soundurl_letter_ V hV) cs_nil)) (calls_nil rfl)))) rfl rfl rfl Tryz.func152
theorem soundfold_Trim_ (V : Ev) (hV : V.OK) : CallSound Tryz.prog (env V []) 107 ⟨sigfold_Trim_, fold_Trim_ V⟩ := by
  rw [← rawfold_Trim_ V]
  exact aFn_sound (E2 := env V []) (envOK V hV (callsfold_Trim_ V) (by kernel_rfl) (calls_cons ((cs_cons (soundstrings_Trim_ V) cs_nil)) (calls_nil rfl))) rfl rfl rfl Tryz.func107
theorem soundurl_Check_1_ (V : Ev) (hV : V.OK) : CallSound Tryz.prog (env V []) 154 ⟨sigurl_Check_1_, url_Check_1_ V⟩ := by
  rw [← rawurl_Check_1_ V]
  exact aFn_sound (E2 := env V []) (envOK V hV (callsurl_Check_1_ V) (by kernel_rfl) (calls_nil rfl)) rfl rfl rfl Tryz.func154
theorem soundurl_all_890 (V : Ev) (hV : V.OK) : CallSound Tryz.prog (env V []) 153 ⟨sigurl_all_890, url_all_890 V⟩ := by
  rw [← rawurl_all_890 V]
  exact aFn_sound (E2 := env V []) (envOK V hV (callsurl_all_890 V) (by kernel_rfl) (calls_cons ((cs_cons (soundurl_Check_1_ V hV) cs_nil)) (calls_nil rfl))) rfl rfl rfl Tryz.func153
theorem soundurl_host_1_ (V : Ev) (hV : V.OK) : CallSound Tryz.prog (env V []) 204 ⟨sigurl_host_1_, url_host_1_ V⟩ := by
  rw [← rawurl_host_1_ V]
  exact aFn_sound (E2 := env V []) (envOK V hV (callsurl_host_1_ V) (by kernel_rfl) (calls_cons ((cs_cons (soundurl_letter_ V hV) cs_nil)) (calls_cons ((cs_cons (soundurl_digit_ V hV) cs_nil)) (calls_nil rfl)))) rfl rfl rfl Tryz.func204
theorem soundurl_all_70b (V : Ev) (hV : V.OK) : CallSound Tryz.prog (env V []) 153 ⟨sigurl_all_70b, url_all_70b V⟩ := by
  rw [← rawurl_all_70b V]
  exact aFn_sound (E2 := env V []) (envOK V hV (callsurl_all_70b V) (by kernel_rfl) (calls_cons ((cs_cons (soundurl_host_1_ V hV) cs_nil)) (calls_nil rfl))) rfl rfl rfl Tryz.func153
theorem soundstrings_Index_ (V : Ev) (hV : V.OK) : CallSound Tryz.prog (env V []) 238 ⟨sigstrings_Index_, strings_Index_ V⟩ := by
  rw [← rawstrings_Index_ V]
  exact aFn_sound (E2 := env V []) (envOK V hV (callsstrings_Index_ V) (by kernel_rfl) (calls_cons ((cs_cons (soundistringslite_Index_ V) cs_nil)) (calls_nil rfl))) rfl rfl rfl Tryz.func238
theorem soundstrings_Contains_ (V : Ev) (hV : V.OK) : CallSound Tryz.prog (env V []) 205 ⟨sigstrings_Contains_, strings_Contains_ V⟩ := by
  rw [← rawstrings_Contains_ V]
  exact aFn_sound (E2 := env V []) (envOK V hV (callsstrings_Contains_ V) (by kernel_rfl) (calls_cons ((cs_cons (soundstrings_Index_ V hV) cs_nil)) (calls_nil rfl))) rfl rfl rfl Tryz.func205
theorem soundurl_host_ (V : Ev) (hV : V.OK) : CallSound Tryz.prog (env V []) 155 ⟨sigurl_host_, url_host_ V⟩ := by
  rw [← rawurl_host_ V]
  exact aFn_sound (E2 := env V []) (envOK V hV (callsurl_host_ V) (by kernel_rfl) (calls_cons ((cs_cons (soundurl_all_70b V hV) cs_nil)) (calls_cons ((cs_cons (soundstrings_Contains_ V hV) cs_nil)) (calls_nil rfl)))) rfl rfl rfl Tryz.func155
theorem soundurl_byteOf_ (V : Ev) (hV : V.OK) : CallSound Tryz.prog (env V []) 156 ⟨sigurl_byteOf_, url_byteOf_ V⟩ := by
  rw [← rawurl_byteOf_ V]
  exact aFn_sound (E2 := env V []) (envOK V hV (callsurl_byteOf_ V) (by kernel_rfl) (calls_nil rfl)) rfl rfl rfl Tryz.func156
theorem soundurl_all_315 (V : Ev) (hV : V.OK) : CallSound Tryz.prog (env V []) 153 ⟨sigurl_all_315, url_all_315 V⟩ := by
  rw [← rawurl_all_315 V]
  exact aFn_sound (E2 := env V []) (envOK V hV (callsurl_all_315 V) (by kernel_rfl) (calls_cons ((cs_cons (soundurl_byteOf_ V hV) cs_nil)) (calls_nil rfl))) rfl rfl rfl Tryz.func153
theorem soundstrings_Count_ (V : Ev) : CallSound Tryz.prog (env V []) 257 ⟨sigstrings_Count_, strings_Count_ V⟩ := given_count layCount
theorem soundstrings_genSplit_ (V : Ev) (hV : V.OK) : CallSound Tryz.prog (env V []) 239 ⟨sigstrings_genSplit_, strings_genSplit_ V⟩ := by
  rw [← rawstrings_genSplit_ V]
  exact aFn_sound (E2 := env V []) (envOK V hV (callsstrings_genSplit_ V) (by kernel_rfl) (calls_cons ((cs_cons (soundstrings_Index_ V hV) cs_nil)) (calls_cons ((cs_cons (soundstrings_Count_ V) cs_nil)) (calls_nil rfl)))) rfl rfl rfl Tryz.func239
theorem soundstrings_Split_ (V : Ev) (hV : V.OK) : CallSound Tryz.prog (env V []) 206 ⟨sigstrings_Split_, strings_Split_ V⟩ := by
  rw [← rawstrings_Split_ V]
  exact aFn_sound (E2 := env V []) (envOK V hV (callsstrings_Split_ V) (by kernel_rfl) (calls_cons ((cs_cons (soundstrings_genSplit_ V hV) cs_nil)) (calls_nil rfl))) rfl rfl rfl Tryz.func206
theorem soundstrings_Join_ (V : Ev) : CallSound Tryz.prog (env V []) 207 ⟨sigstrings_Join_, strings_Join_ V⟩ := given_join layJoin laysE
theorem soundurl_Clean_ (V : Ev) (hV : V.OK) : CallSound Tryz.prog (env V []) 157 ⟨sigurl_Clean_, url_Clean_ V⟩ := by
  rw [← rawurl_Clean_ V]
  exact aFn_sound (E2 := env V []) (envOK V hV (callsurl_Clean_ V) (by kernel_rfl) (calls_cons ((cs_cons (soundstrings_HasPrefix_ V hV) cs_nil)) (calls_cons ((cs_cons (soundstrings_Split_ V hV) cs_nil)) (calls_cons ((cs_cons (soundstrings_Join_ V) cs_nil)) (calls_nil rfl))))) rfl rfl rfl Tryz.func157
theorem soundurl_Check_2_ (V : Ev) (hV : V.OK) : CallSound Tryz.prog (env V []) 158 ⟨sigurl_Check_2_, url_Check_2_ V⟩ := by
  rw [← rawurl_Check_2_ V]
  exact aFn_sound (E2 := env V []) (envOK V hV (callsurl_Check_2_ V) (by kernel_rfl) (calls_cons ((cs_cons (soundurl_byteOf_ V hV) cs_nil)) (calls_nil rfl))) rfl rfl rfl Tryz.func158
theorem soundurl_all_af7 (V : Ev) (hV : V.OK) : CallSound Tryz.prog (env V []) 153 ⟨sigurl_all_af7, url_all_af7 V⟩ := by
  rw [← rawurl_all_af7 V]
  exact aFn_sound (E2 := env V []) (envOK V hV (callsurl_all_af7 V) (by kernel_rfl) (calls_cons ((cs_cons (soundurl_Check_2_ V hV) cs_nil)) (calls_nil rfl))) rfl rfl rfl Tryz.func153
theorem soundurl_text_ (V : Ev) (hV : V.OK) : CallSound Tryz.prog (env V []) 159 ⟨sigurl_text_, url_text_ V⟩ := by
  rw [← rawurl_text_ V]
  exact aFn_sound (E2 := env V []) (envOK V hV (callsurl_text_ V) (by kernel_rfl) (calls_cons ((cs_cons (soundstrconv_Itoa_ V hV) cs_nil)) (calls_nil rfl))) rfl rfl rfl Tryz.func159
theorem soundurl_Check_ (V : Ev) (hV : V.OK) : CallSound Tryz.prog (env V []) 117 ⟨sigurl_Check_, url_Check_ V⟩ := by
  rw [← rawurl_Check_ V]
  exact aFn_sound (E2 := env V []) (envOK V hV (callsurl_Check_ V) (by kernel_rfl) (calls_cons ((cs_cons (soundfold_Trim_ V hV) cs_nil)) (calls_cons ((cs_cons (soundurl_Default_ V hV) cs_nil)) (calls_cons ((cs_cons (soundurl_scheme_ V hV) cs_nil)) (calls_cons ((cs_cons (soundurl_all_890 V hV) (cs_cons (soundurl_all_315 V hV) (cs_cons (soundurl_all_af7 V hV) cs_nil)))) (calls_cons ((cs_cons (soundurl_host_ V hV) cs_nil)) (calls_cons ((cs_cons (soundurl_Clean_ V hV) cs_nil)) (calls_cons ((cs_cons (soundurl_text_ V hV) cs_nil)) (calls_nil rfl))))))))) rfl rfl rfl Tryz.func117
theorem soundsource_scheme_ (V : Ev) (hV : V.OK) : CallSound Tryz.prog (env V []) 75 ⟨sigsource_scheme_, source_scheme_ V⟩ := by
  rw [← rawsource_scheme_ V]
  exact aFn_sound (E2 := env V []) (envOK V hV (callssource_scheme_ V) (by kernel_rfl) (calls_cons ((cs_cons (soundurl_Default_ V hV) cs_nil)) (calls_cons ((cs_cons (soundurl_Check_ V hV) cs_nil)) (calls_nil rfl)))) rfl rfl rfl Tryz.func75
theorem soundsource_host_ (V : Ev) (hV : V.OK) : CallSound Tryz.prog (env V []) 76 ⟨sigsource_host_, source_host_ V⟩ := by
  rw [← rawsource_host_ V]
  exact aFn_sound (E2 := env V []) (envOK V hV (callssource_host_ V) (by kernel_rfl) (calls_cons ((cs_cons (soundurl_Check_ V hV) cs_nil)) (calls_nil rfl))) rfl rfl rfl Tryz.func76
theorem soundsource_path_ (V : Ev) (hV : V.OK) : CallSound Tryz.prog (env V []) 77 ⟨sigsource_path_, source_path_ V⟩ := by
  rw [← rawsource_path_ V]
  exact aFn_sound (E2 := env V []) (envOK V hV (callssource_path_ V) (by kernel_rfl) (calls_cons ((cs_cons (soundstrings_IndexByte_ V hV) cs_nil)) (calls_nil rfl))) rfl rfl rfl Tryz.func77
theorem soundsource_right_ (V : Ev) (hV : V.OK) : CallSound Tryz.prog (env V []) 52 ⟨sigsource_right_, source_right_ V⟩ := by
  rw [← rawsource_right_ V]
  exact aFn_sound (E2 := env V []) (envOK V hV (callssource_right_ V) (by kernel_rfl) (calls_cons ((cs_cons (soundbase_Form_ V hV) cs_nil)) (calls_cons ((cs_cons (soundsource_scheme_ V hV) cs_nil)) (calls_cons ((cs_cons (soundsource_host_ V hV) cs_nil)) (calls_cons ((cs_cons (soundsource_path_ V hV) cs_nil)) (calls_nil rfl)))))) rfl rfl rfl Tryz.func52
theorem soundsource_Parse_ (V : Ev) (hV : V.OK) : CallSound Tryz.prog (env V []) 24 ⟨sigsource_Parse_, source_Parse_ V⟩ := by
  rw [← rawsource_Parse_ V]
  exact aFn_sound (E2 := env V []) (envOK V hV (callssource_Parse_ V) (by kernel_rfl) (calls_cons ((cs_cons (soundfold_Lower_ V hV) cs_nil)) (calls_cons ((cs_cons (soundsource_right_ V hV) cs_nil)) (calls_cons ((cs_cons (soundsource_cutter_quoted_2b7 V hV) cs_nil)) (calls_cons ((cs_cons (soundsource_cutter_host_2b7 V hV) cs_nil)) (calls_nil rfl)))))) rfl rfl rfl Tryz.func24
theorem soundstrings_Builder_copyCheck_476 (V : Ev) : CallSound Tryz.prog (env V []) 71 ⟨sigstrings_Builder_copyCheck_476, strings_Builder_copyCheck_476 V⟩ :=
  copyCheck_sound (fun b w h0 h1 h2 => Any.Builder_copyCheck_fresh lays laysX b w h0 h1 h2) (fun b w h0 => Any.Builder_copyCheck_used lays laysX b w h0) ⟨.inl rfl, .inr (.inl rfl)⟩ (fun t u h ren => by cases h; rfl)
theorem soundstrings_Builder_copyCheck_20a (V : Ev) : CallSound Tryz.prog (env V []) 71 ⟨sigstrings_Builder_copyCheck_20a, strings_Builder_copyCheck_20a V⟩ :=
  copyCheck_sound (fun b w h0 h1 h2 => Any.Builder_copyCheck_fresh lays laysX b w h0 h1 h2) (fun b w h0 => Any.Builder_copyCheck_used lays laysX b w h0) ⟨.inl rfl, .inl rfl⟩ (fun t u h ren => by cases h; rfl)
theorem soundstrings_Builder_WriteByte_a04 (V : Ev) (hV : V.OK) : CallSound Tryz.prog (env V []) 46 ⟨sigstrings_Builder_WriteByte_a04, strings_Builder_WriteByte_a04 V⟩ := by
  rw [← rawstrings_Builder_WriteByte_a04 V]
  exact aFn_sound (E2 := env V []) (envOK V hV (callsstrings_Builder_WriteByte_a04 V) (by kernel_rfl) (calls_cons ((cs_cons (soundstrings_Builder_copyCheck_20a V) cs_nil)) (calls_nil rfl))) rfl rfl rfl Tryz.func46
theorem soundstrings_Builder_String_20a (V : Ev) (hV : V.OK) : CallSound Tryz.prog (env V []) 47 ⟨sigstrings_Builder_String_20a, strings_Builder_String_20a V⟩ := by
  rw [← rawstrings_Builder_String_20a V]
  exact aFn_sound (E2 := env V []) (envOK V hV (callsstrings_Builder_String_20a V) (by kernel_rfl) (calls_nil rfl)) rfl rfl rfl Tryz.func47
theorem soundbase_Encode_ (V : Ev) (hV : V.OK) : CallSound Tryz.prog (env V []) 16 ⟨sigbase_Encode_, base_Encode_ V⟩ := by
  rw [← rawbase_Encode_ V]
  exact aFn_sound (E2 := env V []) (envOK V hV (callsbase_Encode_ V) (by kernel_rfl) (calls_cons ((cs_cons (soundstrings_Builder_WriteByte_a04 V hV) cs_nil)) (calls_cons ((cs_cons (soundstrings_Builder_String_20a V hV) cs_nil)) (calls_nil rfl)))) rfl rfl rfl Tryz.func16
theorem soundstrings_Builder_WriteString_d1d (V : Ev) (hV : V.OK) : CallSound Tryz.prog (env V []) 78 ⟨sigstrings_Builder_WriteString_d1d, strings_Builder_WriteString_d1d V⟩ := by
  rw [← rawstrings_Builder_WriteString_d1d V]
  exact aFn_sound (E2 := env V []) (envOK V hV (callsstrings_Builder_WriteString_d1d V) (by kernel_rfl) (calls_cons ((cs_cons (soundstrings_Builder_copyCheck_476 V) cs_nil)) (calls_nil rfl))) rfl rfl rfl Tryz.func78
theorem soundstrings_Builder_WriteString_cc3 (V : Ev) (hV : V.OK) : CallSound Tryz.prog (env V []) 78 ⟨sigstrings_Builder_WriteString_cc3, strings_Builder_WriteString_cc3 V⟩ := by
  rw [← rawstrings_Builder_WriteString_cc3 V]
  exact aFn_sound (E2 := env V []) (envOK V hV (callsstrings_Builder_WriteString_cc3 V) (by kernel_rfl) (calls_cons ((cs_cons (soundstrings_Builder_copyCheck_20a V) cs_nil)) (calls_nil rfl))) rfl rfl rfl Tryz.func78
theorem soundsource_printed_ (V : Ev) (hV : V.OK) : CallSound Tryz.prog (env V []) 53 ⟨sigsource_printed_, source_printed_ V⟩ := by
  rw [← rawsource_printed_ V]
  exact aFn_sound (E2 := env V []) (envOK V hV (callssource_printed_ V) (by kernel_rfl) (calls_cons ((cs_cons (soundstrings_Builder_String_20a V hV) cs_nil)) (calls_cons ((cs_cons (soundstrings_Builder_WriteString_d1d V hV) (cs_cons (soundstrings_Builder_WriteString_cc3 V hV) cs_nil))) (calls_cons ((cs_cons (soundstrconv_Itoa_ V hV) cs_nil)) (calls_nil rfl))))) rfl rfl rfl Tryz.func53
theorem soundsource_Print_ (V : Ev) (hV : V.OK) : CallSound Tryz.prog (env V []) 21 ⟨sigsource_Print_, source_Print_ V⟩ := by
  rw [← rawsource_Print_ V]
  exact aFn_sound (E2 := env V []) (envOK V hV (callssource_Print_ V) (by kernel_rfl) (calls_cons ((cs_cons (soundbase_Encode_ V hV) cs_nil)) (calls_cons ((cs_cons (soundsource_right_ V hV) cs_nil)) (calls_cons ((cs_cons (soundsource_printed_ V hV) cs_nil)) (calls_nil rfl))))) rfl rfl rfl Tryz.func21
theorem soundsource_List_ (V : Ev) (hV : V.OK) : CallSound Tryz.prog (env V []) 27 ⟨sigsource_List_, source_List_ V⟩ := by
  rw [← rawsource_List_ V]
  exact aFn_sound (E2 := env V []) (envOK V hV (callssource_List_ V) (by kernel_rfl) (calls_cons ((cs_cons (soundsource_Parse_ V hV) cs_nil)) (calls_nil rfl))) rfl rfl rfl Tryz.func27
theorem soundpouncelaw09_words_ (V : Ev) (hV : V.OK) : CallSound Tryz.prog (env V []) 23 ⟨sigpouncelaw09_words_, pouncelaw09_words_ V⟩ := by
  rw [← rawpouncelaw09_words_ V]
  exact aFn_sound (E2 := env V []) (envOK V hV (callspouncelaw09_words_ V) (by kernel_rfl) (calls_cons ((cs_cons (soundsource_Print_ V hV) cs_nil)) (calls_cons ((cs_cons (soundsource_Parse_ V hV) cs_nil)) (calls_cons ((cs_cons (soundsource_List_ V hV) cs_nil)) (calls_nil rfl))))) rfl rfl rfl Tryz.func23
theorem soundmark_New_775 (V : Ev) (hV : V.OK) : CallSound Tryz.prog (env V []) 48 ⟨sigmark_New_775, mark_New_775 V⟩ := by
  rw [← rawmark_New_775 V]
  exact aFn_sound (E2 := env V []) (envOK V hV (callsmark_New_775 V) (by kernel_rfl) (calls_nil rfl)) rfl rfl rfl Tryz.func48
theorem soundmark_Maker_Add_f92 (V : Ev) (hV : V.OK) : CallSound Tryz.prog (env V []) 49 ⟨sigmark_Maker_Add_f92, mark_Maker_Add_f92 V⟩ := by
  rw [← rawmark_Maker_Add_f92 V]
  exact aFn_sound (E2 := env V []) (envOK V hV (callsmark_Maker_Add_f92 V) (by kernel_rfl) (calls_nil rfl)) rfl rfl rfl Tryz.func49
theorem soundmark_Maker_Mark_def (V : Ev) (hV : V.OK) : CallSound Tryz.prog (env V []) 50 ⟨sigmark_Maker_Mark_def, mark_Maker_Mark_def V⟩ := by
  rw [← rawmark_Maker_Mark_def V]
  exact aFn_sound (E2 := env V []) (envOK V hV (callsmark_Maker_Mark_def V) (by kernel_rfl) (calls_nil rfl)) rfl rfl rfl Tryz.func50
theorem soundmark_Of_ (V : Ev) (hV : V.OK) : CallSound Tryz.prog (env V []) 17 ⟨sigmark_Of_, mark_Of_ V⟩ := by
  rw [← rawmark_Of_ V]
  exact aFn_sound (E2 := env V []) (envOK V hV (callsmark_Of_ V) (by kernel_rfl) (calls_cons ((cs_cons (soundmark_New_775 V hV) cs_nil)) (calls_cons ((cs_cons (soundmark_Maker_Add_f92 V hV) cs_nil)) (calls_cons ((cs_cons (soundmark_Maker_Mark_def V hV) cs_nil)) (calls_nil rfl))))) rfl rfl rfl Tryz.func17
theorem soundpouncelaw09_SourceMarks_ (V : Ev) (hV : V.OK) : CallSound Tryz.prog (env V []) 8 ⟨sigpouncelaw09_SourceMarks_, pouncelaw09_SourceMarks_ V⟩ := by
  rw [← rawpouncelaw09_SourceMarks_ V]
  exact aFn_sound (E2 := env V []) (envOK V hV (callspouncelaw09_SourceMarks_ V) (by kernel_rfl) (calls_cons ((cs_cons (soundbase_Encode_ V hV) cs_nil)) (calls_cons ((cs_cons (soundmark_Of_ V hV) cs_nil)) (calls_cons ((cs_cons (soundpouncelaw09_words_ V hV) cs_nil)) (calls_cons ((cs_cons (soundsource_Parse_ V hV) cs_nil)) (calls_nil rfl)))))) rfl rfl rfl Tryz.func8
end Go.En.Pl
