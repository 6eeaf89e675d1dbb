/- Text S of this seat: written by a program of ours, or by hand; checked by Lean. -/
import Derived.Test.YtikphcnjknbdmaaGreatDoorG
import Derived.Test.YtikphcnjknbdmaaGreatDoorLay
set_option linter.unusedVariables false
namespace Go.En.Allow
open Go.Proofs
theorem eqsOK : ∀ t, eqs.contains t = true → EqTy Tryz.prog t :=
  (eqs_cons ⟨by kernel_rfl, by kernel_rfl, by kernel_rfl, by kernel_rfl⟩ (eqs_cons ⟨by kernel_rfl, by kernel_rfl, by kernel_rfl, by kernel_rfl⟩ eqs_nil))
theorem extsOK : ∀ f x, exts.lookup f = some x → ExtOK Tryz.prog f x :=
  (exts_cons (ext_indexByte Tryz.func154 (by kernel_rfl) (by kernel_rfl) (by kernel_rfl) (by kernel_rfl)) exts_nil)
theorem envOK (V : Ev) (hV : V.OK) (l : List (FuncId × List CSpec)) (h1 : l.all (fun p => EnterOK Tryz.prog p.1) = true) (h2 : ∀ g s, s ∈ ((l.lookup g).getD []) → CallSound Tryz.prog (env V []) g s) : EnvOK Tryz.prog (env V l) where
  types := TypesOK.of_tab rfl (tabOK V l) eqsOK
  calls := fun g s hs => (h2 g s hs).env rfl rfl
  mixed := by kernel_rfl
  ext := fun f h => extsOK f _ h rfl
  it := hV.it
  enters := enters_of_all h1

theorem soundmark_New_ (V : Ev) (hV : V.OK) : CallSound Tryz.prog (env V []) 35 ⟨sigmark_New_, mark_New_ V⟩ := by
  rw [← rawmark_New_ V]
  exact aFn_sound (E2 := env V []) (envOK V hV (callsmark_New_ V) (by kernel_rfl) (calls_nil rfl)) rfl rfl Tryz.func35
theorem soundmark_Maker_Add_ (V : Ev) (hV : V.OK) : CallSound Tryz.prog (env V []) 36 ⟨sigmark_Maker_Add_, mark_Maker_Add_ V⟩ := by
  rw [← rawmark_Maker_Add_ V]
  exact aFn_sound (E2 := env V []) (envOK V hV (callsmark_Maker_Add_ V) (by kernel_rfl) (calls_nil rfl)) rfl rfl Tryz.func36
theorem soundmark_Maker_Mark_ (V : Ev) (hV : V.OK) : CallSound Tryz.prog (env V []) 37 ⟨sigmark_Maker_Mark_, mark_Maker_Mark_ V⟩ := by
  rw [← rawmark_Maker_Mark_ V]
  exact aFn_sound (E2 := env V []) (envOK V hV (callsmark_Maker_Mark_ V) (by kernel_rfl) (calls_nil rfl)) rfl rfl Tryz.func37
theorem soundmark_Of_ (V : Ev) (hV : V.OK) : CallSound Tryz.prog (env V []) 14 ⟨sigmark_Of_, mark_Of_ V⟩ := by
  rw [← rawmark_Of_ V]
  exact aFn_sound (E2 := env V []) (envOK V hV (callsmark_Of_ V) (by kernel_rfl) (calls_cons ((cs_cons (soundmark_New_ V hV) cs_nil)) (calls_cons ((cs_cons (soundmark_Maker_Add_ V hV) cs_nil)) (calls_cons ((cs_cons (soundmark_Maker_Mark_ V hV) cs_nil)) (calls_nil rfl))))) rfl rfl Tryz.func14
theorem soundfold_Lower_ (V : Ev) (hV : V.OK) : CallSound Tryz.prog (env V []) 76 ⟨sigfold_Lower_, fold_Lower_ V⟩ := by
  rw [← rawfold_Lower_ V]
  exact aFn_sound (E2 := env V []) (envOK V hV (callsfold_Lower_ V) (by kernel_rfl) (calls_nil rfl)) rfl rfl Tryz.func76
theorem soundistringslite_HasPrefix_ (V : Ev) (hV : V.OK) : CallSound Tryz.prog (env V []) 126 ⟨sigistringslite_HasPrefix_, istringslite_HasPrefix_ V⟩ := by
  rw [← rawistringslite_HasPrefix_ V]
  exact aFn_sound (E2 := env V []) (envOK V hV (callsistringslite_HasPrefix_ V) (by kernel_rfl) (calls_nil rfl)) rfl rfl Tryz.func126
theorem soundstrings_HasPrefix_ (V : Ev) (hV : V.OK) : CallSound Tryz.prog (env V []) 92 ⟨sigstrings_HasPrefix_, strings_HasPrefix_ V⟩ := by
  rw [← rawstrings_HasPrefix_ V]
  exact aFn_sound (E2 := env V []) (envOK V hV (callsstrings_HasPrefix_ V) (by kernel_rfl) (calls_cons ((cs_cons (soundistringslite_HasPrefix_ V hV) cs_nil)) (calls_nil rfl))) rfl rfl Tryz.func92
theorem soundistringslite_HasSuffix_ (V : Ev) (hV : V.OK) : CallSound Tryz.prog (env V []) 125 ⟨sigistringslite_HasSuffix_, istringslite_HasSuffix_ V⟩ := by
  rw [← rawistringslite_HasSuffix_ V]
  exact aFn_sound (E2 := env V []) (envOK V hV (callsistringslite_HasSuffix_ V) (by kernel_rfl) (calls_nil rfl)) rfl rfl Tryz.func125
theorem soundistringslite_TrimSuffix_ (V : Ev) (hV : V.OK) : CallSound Tryz.prog (env V []) 166 ⟨sigistringslite_TrimSuffix_, istringslite_TrimSuffix_ V⟩ := by
  rw [← rawistringslite_TrimSuffix_ V]
  exact aFn_sound (E2 := env V []) (envOK V hV (callsistringslite_TrimSuffix_ V) (by kernel_rfl) (calls_cons ((cs_cons (soundistringslite_HasSuffix_ V hV) cs_nil)) (calls_nil rfl))) rfl rfl Tryz.func166
theorem soundstrings_TrimSuffix_ (V : Ev) (hV : V.OK) : CallSound Tryz.prog (env V []) 152 ⟨sigstrings_TrimSuffix_, strings_TrimSuffix_ V⟩ := by
  rw [← rawstrings_TrimSuffix_ V]
  exact aFn_sound (E2 := env V []) (envOK V hV (callsstrings_TrimSuffix_ V) (by kernel_rfl) (calls_cons ((cs_cons (soundistringslite_TrimSuffix_ V hV) cs_nil)) (calls_nil rfl))) rfl rfl Tryz.func152
theorem soundbase_head_ (V : Ev) (hV : V.OK) : CallSound Tryz.prog (env V []) 132 ⟨sigbase_head_, base_head_ V⟩ := by
  rw [← rawbase_head_ V]
  exact aFn_sound (E2 := env V []) (envOK V hV (callsbase_head_ V) (by kernel_rfl) (calls_cons ((cs_cons (soundstrings_TrimSuffix_ V hV) cs_nil)) (calls_nil rfl))) rfl rfl Tryz.func132
theorem soundistringslite_IndexByte_ (V : Ev) (hV : V.OK) : CallSound Tryz.prog (env V []) 135 ⟨sigistringslite_IndexByte_, istringslite_IndexByte_ V⟩ := by
  rw [← rawistringslite_IndexByte_ V]
  exact aFn_sound (E2 := env V []) (envOK V hV (callsistringslite_IndexByte_ V) (by kernel_rfl) (calls_nil rfl)) rfl rfl Tryz.func135
theorem soundstrings_IndexByte_ (V : Ev) (hV : V.OK) : CallSound Tryz.prog (env V []) 108 ⟨sigstrings_IndexByte_, strings_IndexByte_ V⟩ := by
  rw [← rawstrings_IndexByte_ V]
  exact aFn_sound (E2 := env V []) (envOK V hV (callsstrings_IndexByte_ V) (by kernel_rfl) (calls_cons ((cs_cons (soundistringslite_IndexByte_ V hV) cs_nil)) (calls_nil rfl))) rfl rfl Tryz.func108
theorem soundbase_value_ (V : Ev) (hV : V.OK) : CallSound Tryz.prog (env V []) 133 ⟨sigbase_value_, base_value_ V⟩ := by
  rw [← rawbase_value_ V]
  exact aFn_sound (E2 := env V []) (envOK V hV (callsbase_value_ V) (by kernel_rfl) (calls_cons ((cs_cons (soundstrings_IndexByte_ V hV) cs_nil)) (calls_nil rfl))) rfl rfl Tryz.func133
theorem soundbase_Form_ (V : Ev) (hV : V.OK) : CallSound Tryz.prog (env V []) 111 ⟨sigbase_Form_, base_Form_ V⟩ := by
  rw [← rawbase_Form_ V]
  exact aFn_sound (E2 := env V []) (envOK V hV (callsbase_Form_ V) (by kernel_rfl) (calls_cons ((cs_cons (soundbase_head_ V hV) cs_nil)) (calls_cons ((cs_cons (soundbase_value_ V hV) cs_nil)) (calls_nil rfl)))) rfl rfl Tryz.func111
theorem soundbase_Decode_ (V : Ev) (hV : V.OK) : CallSound Tryz.prog (env V []) 106 ⟨sigbase_Decode_, base_Decode_ V⟩ := by
  rw [← rawbase_Decode_ V]
  exact aFn_sound (E2 := env V []) (envOK V hV (callsbase_Decode_ V) (by kernel_rfl) (calls_cons ((cs_cons (soundbase_Form_ V hV) cs_nil)) (calls_cons ((cs_cons (soundbase_head_ V hV) cs_nil)) (calls_cons ((cs_cons (soundbase_value_ V hV) cs_nil)) (calls_nil rfl))))) rfl rfl Tryz.func106
theorem soundsource_cutter_quoted_ (V : Ev) (hV : V.OK) : CallSound Tryz.prog (env V []) 75 ⟨sigsource_cutter_quoted_, source_cutter_quoted_ V⟩ := by
  rw [← rawsource_cutter_quoted_ V]
  exact aFn_sound (E2 := env V []) (envOK V hV (callssource_cutter_quoted_ V) (by kernel_rfl) (calls_cons ((cs_cons (soundfold_Lower_ V hV) cs_nil)) (calls_cons ((cs_cons (soundstrings_HasPrefix_ V hV) cs_nil)) (calls_cons ((cs_cons (soundbase_Decode_ V hV) cs_nil)) (calls_nil rfl))))) rfl rfl Tryz.func75
theorem soundistringslite_Index_ (V : Ev) (hV : V.OK) : CallSound Tryz.prog (env V []) 153 ⟨sigistringslite_Index_, istringslite_Index_ V⟩ := by
  rw [← rawistringslite_Index_ V]
  exact aFn_sound (E2 := env V []) (envOK V hV (callsistringslite_Index_ V) (by kernel_rfl) (calls_cons ((cs_cons (soundistringslite_IndexByte_ V hV) cs_nil)) (calls_nil rfl))) rfl rfl Tryz.func153
theorem soundistringslite_Cut_ (V : Ev) (hV : V.OK) : CallSound Tryz.prog (env V []) 134 ⟨sigistringslite_Cut_, istringslite_Cut_ V⟩ := by
  rw [← rawistringslite_Cut_ V]
  exact aFn_sound (E2 := env V []) (envOK V hV (callsistringslite_Cut_ V) (by kernel_rfl) (calls_cons ((cs_cons (soundistringslite_Index_ V hV) cs_nil)) (calls_nil rfl))) rfl rfl Tryz.func134
theorem soundstrings_Cut_ (V : Ev) (hV : V.OK) : CallSound Tryz.prog (env V []) 107 ⟨sigstrings_Cut_, strings_Cut_ V⟩ := by
  rw [← rawstrings_Cut_ V]
  exact aFn_sound (E2 := env V []) (envOK V hV (callsstrings_Cut_ V) (by kernel_rfl) (calls_cons ((cs_cons (soundistringslite_Cut_ V hV) cs_nil)) (calls_nil rfl))) rfl rfl Tryz.func107
theorem soundstrings_trimRightByte_ (V : Ev) (hV : V.OK) : CallSound Tryz.prog (env V []) 139 ⟨sigstrings_trimRightByte_, strings_trimRightByte_ V⟩ := by
  rw [← rawstrings_trimRightByte_ V]
  exact aFn_sound (E2 := env V []) (envOK V hV (callsstrings_trimRightByte_ V) (by kernel_rfl) (calls_nil rfl)) rfl rfl Tryz.func139
theorem soundstrings_trimLeftByte_ (V : Ev) (hV : V.OK) : CallSound Tryz.prog (env V []) 138 ⟨sigstrings_trimLeftByte_, strings_trimLeftByte_ V⟩ := by
  rw [← rawstrings_trimLeftByte_ V]
  exact aFn_sound (E2 := env V []) (envOK V hV (callsstrings_trimLeftByte_ V) (by kernel_rfl) (calls_nil rfl)) rfl rfl Tryz.func138
theorem soundstrings_Trim_ (V : Ev) (hV : V.OK) : CallSound Tryz.prog (env V []) 118 ⟨sigstrings_Trim_, strings_Trim_ V⟩ := by
  rw [← rawstrings_Trim_ V]
  exact aFn_sound (E2 := env V []) (envOK V hV (callsstrings_Trim_ V) (by kernel_rfl) (calls_cons ((cs_cons (soundstrings_trimLeftByte_ V hV) cs_nil)) (calls_cons ((cs_cons (soundstrings_trimRightByte_ V hV) cs_nil)) (calls_nil rfl)))) rfl rfl Tryz.func118
theorem soundistrconv_lower_ (V : Ev) (hV : V.OK) : CallSound Tryz.prog (env V []) 196 ⟨sigistrconv_lower_, istrconv_lower_ V⟩ := by
  rw [← rawistrconv_lower_ V]
  exact aFn_sound (E2 := env V []) (envOK V hV (callsistrconv_lower_ V) (by kernel_rfl) (calls_nil rfl)) rfl rfl Tryz.func196
theorem soundistrconv_underscoreOK_ (V : Ev) (hV : V.OK) : CallSound Tryz.prog (env V []) 197 ⟨sigistrconv_underscoreOK_, istrconv_underscoreOK_ V⟩ := by
  rw [← rawistrconv_underscoreOK_ V]
  exact aFn_sound (E2 := env V []) (envOK V hV (callsistrconv_underscoreOK_ V) (by kernel_rfl) (calls_cons ((cs_cons (soundistrconv_lower_ V hV) cs_nil)) (calls_nil rfl))) rfl rfl Tryz.func197
theorem soundistrconv_ParseUint_ (V : Ev) (hV : V.OK) : CallSound Tryz.prog (env V []) 187 ⟨sigistrconv_ParseUint_, istrconv_ParseUint_ V⟩ := by
  rw [← rawistrconv_ParseUint_ V]
  exact aFn_sound (E2 := env V []) (envOK V hV (callsistrconv_ParseUint_ V) (by kernel_rfl) (calls_cons ((cs_cons (soundistrconv_lower_ V hV) cs_nil)) (calls_cons ((cs_cons (soundistrconv_underscoreOK_ V hV) cs_nil)) (calls_nil rfl)))) rfl rfl Tryz.func187
theorem soundistrconv_ParseInt_ (V : Ev) (hV : V.OK) : CallSound Tryz.prog (env V []) 170 ⟨sigistrconv_ParseInt_, istrconv_ParseInt_ V⟩ := by
  rw [← rawistrconv_ParseInt_ V]
  exact aFn_sound (E2 := env V []) (envOK V hV (callsistrconv_ParseInt_ V) (by kernel_rfl) (calls_cons ((cs_cons (soundistrconv_ParseUint_ V hV) cs_nil)) (calls_nil rfl))) rfl rfl Tryz.func170
theorem soundistrconv_Atoi_ (V : Ev) (hV : V.OK) : CallSound Tryz.prog (env V []) 155 ⟨sigistrconv_Atoi_, istrconv_Atoi_ V⟩ := by
  rw [← rawistrconv_Atoi_ V]
  exact aFn_sound (E2 := env V []) (envOK V hV (callsistrconv_Atoi_ V) (by kernel_rfl) (calls_cons ((cs_cons (soundistrconv_ParseInt_ V hV) cs_nil)) (calls_nil rfl))) rfl rfl Tryz.func155
theorem soundistringslite_Clone_ (V : Ev) (hV : V.OK) : CallSound Tryz.prog (env V []) 188 ⟨sigistringslite_Clone_, istringslite_Clone_ V⟩ := by
  rw [← rawistringslite_Clone_ V]
  exact aFn_sound (E2 := env V []) (envOK V hV (callsistringslite_Clone_ V) (by kernel_rfl) (calls_nil rfl)) rfl rfl Tryz.func188
theorem soundstrconv_syntaxError_ (V : Ev) (hV : V.OK) : CallSound Tryz.prog (env V []) 171 ⟨sigstrconv_syntaxError_, strconv_syntaxError_ V⟩ := by
  rw [← rawstrconv_syntaxError_ V]
  exact aFn_sound (E2 := env V []) (envOK V hV (callsstrconv_syntaxError_ V) (by kernel_rfl) (calls_cons ((cs_cons (soundistringslite_Clone_ V hV) cs_nil)) (calls_nil rfl))) rfl rfl Tryz.func171
theorem soundstrconv_rangeError_ (V : Ev) (hV : V.OK) : CallSound Tryz.prog (env V []) 172 ⟨sigstrconv_rangeError_, strconv_rangeError_ V⟩ := by
  rw [← rawstrconv_rangeError_ V]
  exact aFn_sound (E2 := env V []) (envOK V hV (callsstrconv_rangeError_ V) (by kernel_rfl) (calls_cons ((cs_cons (soundistringslite_Clone_ V hV) cs_nil)) (calls_nil rfl))) rfl rfl Tryz.func172
theorem soundstrconv_toError_ (V : Ev) (hV : V.OK) : CallSound Tryz.prog (env V []) 156 ⟨sigstrconv_toError_, strconv_toError_ V⟩ := by
  rw [← rawstrconv_toError_ V]
  exact aFn_sound (E2 := env V []) (envOK V hV (callsstrconv_toError_ V) (by kernel_rfl) (calls_cons ((cs_cons (soundstrconv_syntaxError_ V hV) cs_nil)) (calls_cons ((cs_cons (soundstrconv_rangeError_ V hV) cs_nil)) (calls_nil rfl)))) rfl rfl Tryz.func156
theorem soundstrconv_Atoi_ (V : Ev) (hV : V.OK) : CallSound Tryz.prog (env V []) 136 ⟨sigstrconv_Atoi_, strconv_Atoi_ V⟩ := by
  rw [← rawstrconv_Atoi_ V]
  exact aFn_sound (E2 := env V []) (envOK V hV (callsstrconv_Atoi_ V) (by kernel_rfl) (calls_cons ((cs_cons (soundistrconv_Atoi_ V hV) cs_nil)) (calls_cons ((cs_cons (soundstrconv_toError_ V hV) cs_nil)) (calls_nil rfl)))) rfl rfl Tryz.func136
theorem soundsource_cutter_port_ (V : Ev) (hV : V.OK) : CallSound Tryz.prog (env V []) 109 ⟨sigsource_cutter_port_, source_cutter_port_ V⟩ := by
  rw [← rawsource_cutter_port_ V]
  exact aFn_sound (E2 := env V []) (envOK V hV (callssource_cutter_port_ V) (by kernel_rfl) (calls_cons ((cs_cons (soundstrings_Trim_ V hV) cs_nil)) (calls_cons ((cs_cons (soundstrconv_Atoi_ V hV) cs_nil)) (calls_nil rfl)))) rfl rfl Tryz.func109
theorem soundistringslite_CutPrefix_ (V : Ev) (hV : V.OK) : CallSound Tryz.prog (env V []) 137 ⟨sigistringslite_CutPrefix_, istringslite_CutPrefix_ V⟩ := by
  rw [← rawistringslite_CutPrefix_ V]
  exact aFn_sound (E2 := env V []) (envOK V hV (callsistringslite_CutPrefix_ V) (by kernel_rfl) (calls_cons ((cs_cons (soundistringslite_HasPrefix_ V hV) cs_nil)) (calls_nil rfl))) rfl rfl Tryz.func137
theorem soundstrings_CutPrefix_ (V : Ev) (hV : V.OK) : CallSound Tryz.prog (env V []) 110 ⟨sigstrings_CutPrefix_, strings_CutPrefix_ V⟩ := by
  rw [← rawstrings_CutPrefix_ V]
  exact aFn_sound (E2 := env V []) (envOK V hV (callsstrings_CutPrefix_ V) (by kernel_rfl) (calls_cons ((cs_cons (soundistringslite_CutPrefix_ V hV) cs_nil)) (calls_nil rfl))) rfl rfl Tryz.func110
theorem soundsource_cutter_host_ (V : Ev) (hV : V.OK) : CallSound Tryz.prog (env V []) 77 ⟨sigsource_cutter_host_, source_cutter_host_ V⟩ := by
  rw [← rawsource_cutter_host_ V]
  exact aFn_sound (E2 := env V []) (envOK V hV (callssource_cutter_host_ V) (by kernel_rfl) (calls_cons ((cs_cons (soundfold_Lower_ V hV) cs_nil)) (calls_cons ((cs_cons (soundstrings_Cut_ V hV) cs_nil)) (calls_cons ((cs_cons (soundstrings_IndexByte_ V hV) cs_nil)) (calls_cons ((cs_cons (soundsource_cutter_port_ V hV) cs_nil)) (calls_cons ((cs_cons (soundstrings_CutPrefix_ V hV) cs_nil)) (calls_nil rfl))))))) rfl rfl Tryz.func77
theorem soundurl_Default_ (V : Ev) (hV : V.OK) : CallSound Tryz.prog (env V []) 79 ⟨sigurl_Default_, url_Default_ V⟩ := by
  rw [← rawurl_Default_ V]
  exact aFn_sound (E2 := env V []) (envOK V hV (callsurl_Default_ V) (by kernel_rfl) (calls_nil rfl)) rfl rfl Tryz.func79
theorem soundurl_letter_ (V : Ev) (hV : V.OK) : CallSound Tryz.prog (env V []) 115 ⟨sigurl_letter_, url_letter_ V⟩ := by
  rw [← rawurl_letter_ V]
  exact aFn_sound (E2 := env V []) (envOK V hV (callsurl_letter_ V) (by kernel_rfl) (calls_nil rfl)) rfl rfl Tryz.func115
theorem soundurl_digit_ (V : Ev) (hV : V.OK) : CallSound Tryz.prog (env V []) 117 ⟨sigurl_digit_, url_digit_ V⟩ := by
  rw [← rawurl_digit_ V]
  exact aFn_sound (E2 := env V []) (envOK V hV (callsurl_digit_ V) (by kernel_rfl) (calls_nil rfl)) rfl rfl Tryz.func117
theorem soundurl_scheme_1_ (V : Ev) (hV : V.OK) : CallSound Tryz.prog (env V []) 116 ⟨sigurl_scheme_1_, url_scheme_1_ V⟩ := by
  rw [← rawurl_scheme_1_ V]
  exact aFn_sound (E2 := env V []) (envOK V hV (callsurl_scheme_1_ V) (by kernel_rfl) (calls_cons ((cs_cons (soundurl_letter_ V hV) cs_nil)) (calls_cons ((cs_cons (soundurl_digit_ V hV) cs_nil)) (calls_nil rfl)))) rfl rfl Tryz.func116
theorem soundurl_all_ (V : Ev) (hV : V.OK) : CallSound Tryz.prog (env V []) 82 ⟨sigurl_all_, url_all_ V⟩ := by
  rw [← rawurl_all_ V]
  exact aFn_sound (E2 := env V []) (envOK V hV (callsurl_all_ V) (by kernel_rfl) (calls_cons ((cs_cons (soundurl_scheme_1_ V hV) cs_nil)) (calls_nil rfl))) rfl rfl Tryz.func82
theorem soundurl_scheme_ (V : Ev) (hV : V.OK) : CallSound Tryz.prog (env V []) 80 ⟨sigurl_scheme_, url_scheme_ V⟩ := by
  rw [← rawurl_scheme_ V]
  exact aFn_sound (E2 := env V []) (envOK V hV (callsurl_scheme_ V) (by kernel_rfl) (calls_cons ((cs_cons (soundurl_all_ V hV) cs_nil)) (calls_cons ((cs_cons (soundurl_letter_ V hV) cs_nil)) (calls_nil rfl)))) rfl rfl Tryz.func80
theorem soundsource_scheme_ (V : Ev) (hV : V.OK) : CallSound Tryz.prog (env V []) 112 ⟨sigsource_scheme_, source_scheme_ V⟩ := by
  rw [← rawsource_scheme_ V]
  exact aFn_sound (E2 := env V []) (envOK V hV (callssource_scheme_ V) (by kernel_rfl) (calls_cons ((cs_cons (soundurl_Default_ V hV) cs_nil)) (calls_nil rfl))) rfl rfl Tryz.func112
theorem soundsource_path_ (V : Ev) (hV : V.OK) : CallSound Tryz.prog (env V []) 114 ⟨sigsource_path_, source_path_ V⟩ := by
  rw [← rawsource_path_ V]
  exact aFn_sound (E2 := env V []) (envOK V hV (callssource_path_ V) (by kernel_rfl) (calls_cons ((cs_cons (soundstrings_IndexByte_ V hV) cs_nil)) (calls_nil rfl))) rfl rfl Tryz.func114
theorem soundsource_right_ (V : Ev) (hV : V.OK) : CallSound Tryz.prog (env V []) 78 ⟨sigsource_right_, source_right_ V⟩ := by
  rw [← rawsource_right_ V]
  exact aFn_sound (E2 := env V []) (envOK V hV (callssource_right_ V) (by kernel_rfl) (calls_cons ((cs_cons (soundbase_Form_ V hV) cs_nil)) (calls_cons ((cs_cons (soundsource_scheme_ V hV) cs_nil)) (calls_cons ((cs_cons (soundsource_path_ V hV) cs_nil)) (calls_nil rfl))))) rfl rfl Tryz.func78
theorem soundsource_Parse_ (V : Ev) (hV : V.OK) : CallSound Tryz.prog (env V []) 50 ⟨sigsource_Parse_, source_Parse_ V⟩ := by
  rw [← rawsource_Parse_ V]
  exact aFn_sound (E2 := env V []) (envOK V hV (callssource_Parse_ V) (by kernel_rfl) (calls_cons ((cs_cons (soundsource_cutter_quoted_ V hV) cs_nil)) (calls_cons ((cs_cons (soundfold_Lower_ V hV) cs_nil)) (calls_cons ((cs_cons (soundsource_cutter_host_ V hV) cs_nil)) (calls_cons ((cs_cons (soundsource_right_ V hV) cs_nil)) (calls_nil rfl)))))) rfl rfl Tryz.func50
theorem soundsource_List_ (V : Ev) (hV : V.OK) : CallSound Tryz.prog (env V []) 34 ⟨sigsource_List_, source_List_ V⟩ := by
  rw [← rawsource_List_ V]
  exact aFn_sound (E2 := env V []) (envOK V hV (callssource_List_ V) (by kernel_rfl) (calls_cons ((cs_cons (soundsource_Parse_ V hV) cs_nil)) (calls_nil rfl))) rfl rfl Tryz.func34
theorem soundallow_has_1_1_ (V : Ev) (hV : V.OK) : CallSound Tryz.prog (env V []) 49 ⟨sigallow_has_1_1_, allow_has_1_1_ V⟩ := by
  rw [← rawallow_has_1_1_ V]
  exact aFn_sound (E2 := env V []) (envOK V hV (callsallow_has_1_1_ V) (by kernel_rfl) (calls_nil rfl)) rfl rfl Tryz.func49
theorem soundallow_some_39_ (V : Ev) (hV : V.OK) : CallSound Tryz.prog (env V []) 39 ⟨sigallow_some_39_, allow_some_39_ V⟩ := by
  rw [← rawallow_some_39_ V]
  exact aFn_sound (E2 := env V []) (envOK V hV (callsallow_some_39_ V) (by kernel_rfl) (calls_cons ((cs_cons (soundallow_has_1_1_ V hV) cs_nil)) (calls_nil rfl))) rfl rfl Tryz.func39
theorem soundallow_has_1_ (V : Ev) (hV : V.OK) : CallSound Tryz.prog (env V []) 48 ⟨sigallow_has_1_, allow_has_1_ V⟩ := by
  rw [← rawallow_has_1_ V]
  exact aFn_sound (E2 := env V []) (envOK V hV (callsallow_has_1_ V) (by kernel_rfl) (calls_cons ((cs_cons (soundallow_some_39_ V hV) cs_nil)) (calls_nil rfl))) rfl rfl Tryz.func48
theorem soundallow_some_ (V : Ev) (hV : V.OK) : CallSound Tryz.prog (env V []) 47 ⟨sigallow_some_, allow_some_ V⟩ := by
  rw [← rawallow_some_ V]
  exact aFn_sound (E2 := env V []) (envOK V hV (callsallow_some_ V) (by kernel_rfl) (calls_cons ((cs_cons (soundallow_has_1_ V hV) cs_nil)) (calls_nil rfl))) rfl rfl Tryz.func47
theorem soundallow_has_ (V : Ev) (hV : V.OK) : CallSound Tryz.prog (env V []) 32 ⟨sigallow_has_, allow_has_ V⟩ := by
  rw [← rawallow_has_ V]
  exact aFn_sound (E2 := env V []) (envOK V hV (callsallow_has_ V) (by kernel_rfl) (calls_cons ((cs_cons (soundallow_some_ V hV) cs_nil)) (calls_nil rfl))) rfl rfl Tryz.func32
theorem soundallow_Loose_ (V : Ev) (hV : V.OK) : CallSound Tryz.prog (env V []) 15 ⟨sigallow_Loose_, allow_Loose_ V⟩ := by
  rw [← rawallow_Loose_ V]
  exact aFn_sound (E2 := env V []) (envOK V hV (callsallow_Loose_ V) (by kernel_rfl) (calls_cons ((cs_cons (soundallow_has_ V hV) cs_nil)) (calls_nil rfl))) rfl rfl Tryz.func15
theorem soundallow_text_1_ (V : Ev) (hV : V.OK) : CallSound Tryz.prog (env V []) 51 ⟨sigallow_text_1_, allow_text_1_ V⟩ := by
  rw [← rawallow_text_1_ V]
  exact aFn_sound (E2 := env V []) (envOK V hV (callsallow_text_1_ V) (by kernel_rfl) (calls_nil rfl)) rfl rfl Tryz.func51
theorem soundallow_some_39_b (V : Ev) (hV : V.OK) : CallSound Tryz.prog (env V []) 39 ⟨sigallow_some_39_b, allow_some_39_b V⟩ := by
  rw [← rawallow_some_39_b V]
  exact aFn_sound (E2 := env V []) (envOK V hV (callsallow_some_39_b V) (by kernel_rfl) (calls_cons ((cs_cons (soundallow_text_1_ V hV) cs_nil)) (calls_nil rfl))) rfl rfl Tryz.func39
theorem soundallow_text_ (V : Ev) (hV : V.OK) : CallSound Tryz.prog (env V []) 38 ⟨sigallow_text_, allow_text_ V⟩ := by
  rw [← rawallow_text_ V]
  exact aFn_sound (E2 := env V []) (envOK V hV (callsallow_text_ V) (by kernel_rfl) (calls_cons ((cs_cons (soundallow_some_39_b V hV) cs_nil)) (calls_nil rfl))) rfl rfl Tryz.func38
theorem soundallow_Nonce_ (V : Ev) (hV : V.OK) : CallSound Tryz.prog (env V []) 17 ⟨sigallow_Nonce_, allow_Nonce_ V⟩ := by
  rw [← rawallow_Nonce_ V]
  exact aFn_sound (E2 := env V []) (envOK V hV (callsallow_Nonce_ V) (by kernel_rfl) (calls_cons ((cs_cons (soundallow_text_ V hV) cs_nil)) (calls_nil rfl))) rfl rfl Tryz.func17
theorem soundallow_Hash_ (V : Ev) (hV : V.OK) : CallSound Tryz.prog (env V []) 18 ⟨sigallow_Hash_, allow_Hash_ V⟩ := by
  rw [← rawallow_Hash_ V]
  exact aFn_sound (E2 := env V []) (envOK V hV (callsallow_Hash_ V) (by kernel_rfl) (calls_cons ((cs_cons (soundmark_Of_ V hV) cs_nil)) (calls_cons ((cs_cons (soundallow_text_ V hV) cs_nil)) (calls_nil rfl)))) rfl rfl Tryz.func18
theorem soundallow_Inline_ (V : Ev) (hV : V.OK) : CallSound Tryz.prog (env V []) 11 ⟨sigallow_Inline_, allow_Inline_ V⟩ := by
  rw [← rawallow_Inline_ V]
  exact aFn_sound (E2 := env V []) (envOK V hV (callsallow_Inline_ V) (by kernel_rfl) (calls_cons ((cs_cons (soundallow_Loose_ V hV) cs_nil)) (calls_cons ((cs_cons (soundallow_Nonce_ V hV) cs_nil)) (calls_cons ((cs_cons (soundallow_Hash_ V hV) cs_nil)) (calls_cons ((cs_cons (soundallow_has_ V hV) cs_nil)) (calls_nil rfl)))))) rfl rfl Tryz.func11
theorem soundpouncelaw11_inline_ (V : Ev) (hV : V.OK) : CallSound Tryz.prog (env V []) 33 ⟨sigpouncelaw11_inline_, pouncelaw11_inline_ V⟩ := by
  rw [← rawpouncelaw11_inline_ V]
  exact aFn_sound (E2 := env V []) (envOK V hV (callspouncelaw11_inline_ V) (by kernel_rfl) (calls_cons ((cs_cons (soundallow_Inline_ V hV) cs_nil)) (calls_cons ((cs_cons (soundsource_List_ V hV) cs_nil)) (calls_nil rfl)))) rfl rfl Tryz.func33
theorem soundallow_Eval_ (V : Ev) (hV : V.OK) : CallSound Tryz.prog (env V []) 29 ⟨sigallow_Eval_, allow_Eval_ V⟩ := by
  rw [← rawallow_Eval_ V]
  exact aFn_sound (E2 := env V []) (envOK V hV (callsallow_Eval_ V) (by kernel_rfl) (calls_cons ((cs_cons (soundallow_has_ V hV) cs_nil)) (calls_nil rfl))) rfl rfl Tryz.func29
theorem soundpouncelaw11_allows_ (V : Ev) (hV : V.OK) : CallSound Tryz.prog (env V []) 12 ⟨sigpouncelaw11_allows_, pouncelaw11_allows_ V⟩ := by
  rw [← rawpouncelaw11_allows_ V]
  exact aFn_sound (E2 := env V []) (envOK V hV (callspouncelaw11_allows_ V) (by kernel_rfl) (calls_cons ((cs_cons (soundallow_Inline_ V hV) cs_nil)) (calls_cons ((cs_cons (soundmark_Of_ V hV) cs_nil)) (calls_cons ((cs_cons (soundallow_Hash_ V hV) cs_nil)) (calls_cons ((cs_cons (soundallow_Eval_ V hV) cs_nil)) (calls_cons ((cs_cons (soundpouncelaw11_inline_ V hV) cs_nil)) (calls_cons ((cs_cons (soundsource_List_ V hV) cs_nil)) (calls_nil rfl)))))))) rfl rfl Tryz.func12
theorem soundpounceref05_Big_ (V : Ev) (hV : V.OK) : CallSound Tryz.prog (env V []) 46 ⟨sigpounceref05_Big_, pounceref05_Big_ V⟩ := by
  rw [← rawpounceref05_Big_ V]
  exact aFn_sound (E2 := env V []) (envOK V hV (callspounceref05_Big_ V) (by kernel_rfl) (calls_nil rfl)) rfl rfl Tryz.func46
theorem soundpounceref11_Big_ (V : Ev) (hV : V.OK) : CallSound Tryz.prog (env V []) 31 ⟨sigpounceref11_Big_, pounceref11_Big_ V⟩ := by
  rw [← rawpounceref11_Big_ V]
  exact aFn_sound (E2 := env V []) (envOK V hV (callspounceref11_Big_ V) (by kernel_rfl) (calls_cons ((cs_cons (soundpounceref05_Big_ V hV) cs_nil)) (calls_nil rfl))) rfl rfl Tryz.func31
theorem soundmatch_Url_ (V : Ev) (hV : V.OK) : CallSound Tryz.prog (env V []) 41 ⟨sigmatch_Url_, match_Url_ V⟩ := by
  rw [← rawmatch_Url_ V]
  exact aFn_sound (E2 := env V []) (envOK V hV (callsmatch_Url_ V) (by kernel_rfl) (calls_nil rfl)) rfl rfl Tryz.func41
theorem soundallow_Url_1_ (V : Ev) (hV : V.OK) : CallSound Tryz.prog (env V []) 40 ⟨sigallow_Url_1_, allow_Url_1_ V⟩ := by
  rw [← rawallow_Url_1_ V]
  exact aFn_sound (E2 := env V []) (envOK V hV (callsallow_Url_1_ V) (by kernel_rfl) (calls_cons ((cs_cons (soundmatch_Url_ V hV) cs_nil)) (calls_nil rfl))) rfl rfl Tryz.func40
theorem soundallow_some_39_c (V : Ev) (hV : V.OK) : CallSound Tryz.prog (env V []) 39 ⟨sigallow_some_39_c, allow_some_39_c V⟩ := by
  rw [← rawallow_some_39_c V]
  exact aFn_sound (E2 := env V []) (envOK V hV (callsallow_some_39_c V) (by kernel_rfl) (calls_cons ((cs_cons (soundallow_Url_1_ V hV) cs_nil)) (calls_nil rfl))) rfl rfl Tryz.func39
theorem soundallow_Url_ (V : Ev) (hV : V.OK) : CallSound Tryz.prog (env V []) 20 ⟨sigallow_Url_, allow_Url_ V⟩ := by
  rw [← rawallow_Url_ V]
  exact aFn_sound (E2 := env V []) (envOK V hV (callsallow_Url_ V) (by kernel_rfl) (calls_cons ((cs_cons (soundallow_some_39_c V hV) cs_nil)) (calls_nil rfl))) rfl rfl Tryz.func20
theorem soundallow_Fetch_ (V : Ev) (hV : V.OK) : CallSound Tryz.prog (env V []) 27 ⟨sigallow_Fetch_, allow_Fetch_ V⟩ := by
  rw [← rawallow_Fetch_ V]
  exact aFn_sound (E2 := env V []) (envOK V hV (callsallow_Fetch_ V) (by kernel_rfl) (calls_cons ((cs_cons (soundallow_Nonce_ V hV) cs_nil)) (calls_cons ((cs_cons (soundallow_Url_ V hV) cs_nil)) (calls_cons ((cs_cons (soundallow_has_ V hV) cs_nil)) (calls_nil rfl))))) rfl rfl Tryz.func27
theorem soundpouncelaw11_AllowNothing_ (V : Ev) (hV : V.OK) : CallSound Tryz.prog (env V []) 7 ⟨sigpouncelaw11_AllowNothing_, pouncelaw11_AllowNothing_ V⟩ := by
  rw [← rawpouncelaw11_AllowNothing_ V]
  exact aFn_sound (E2 := env V []) (envOK V hV (callspouncelaw11_AllowNothing_ V) (by kernel_rfl) (calls_cons ((cs_cons (soundallow_Inline_ V hV) cs_nil)) (calls_cons ((cs_cons (soundpouncelaw11_allows_ V hV) cs_nil)) (calls_cons ((cs_cons (soundallow_Fetch_ V hV) cs_nil)) (calls_cons ((cs_cons (soundallow_Eval_ V hV) cs_nil)) (calls_cons ((cs_cons (soundpounceref11_Big_ V hV) cs_nil)) (calls_nil rfl))))))) rfl rfl Tryz.func7
theorem soundpounceref09_Big_ (V : Ev) (hV : V.OK) : CallSound Tryz.prog (env V []) 16 ⟨sigpounceref09_Big_, pounceref09_Big_ V⟩ := by
  rw [← rawpounceref09_Big_ V]
  exact aFn_sound (E2 := env V []) (envOK V hV (callspounceref09_Big_ V) (by kernel_rfl) (calls_nil rfl)) rfl rfl Tryz.func16
theorem soundpouncelaw11_has_ (V : Ev) (hV : V.OK) : CallSound Tryz.prog (env V []) 13 ⟨sigpouncelaw11_has_, pouncelaw11_has_ V⟩ := by
  rw [← rawpouncelaw11_has_ V]
  exact aFn_sound (E2 := env V []) (envOK V hV (callspouncelaw11_has_ V) (by kernel_rfl) (calls_nil rfl)) rfl rfl Tryz.func13
theorem soundpouncelaw11_AllowNonce_ (V : Ev) (hV : V.OK) : CallSound Tryz.prog (env V []) 4 ⟨sigpouncelaw11_AllowNonce_, pouncelaw11_AllowNonce_ V⟩ := by
  rw [← rawpouncelaw11_AllowNonce_ V]
  exact aFn_sound (E2 := env V []) (envOK V hV (callspouncelaw11_AllowNonce_ V) (by kernel_rfl) (calls_cons ((cs_cons (soundpouncelaw11_allows_ V hV) cs_nil)) (calls_cons ((cs_cons (soundpouncelaw11_has_ V hV) cs_nil)) (calls_cons ((cs_cons (soundmark_Of_ V hV) cs_nil)) (calls_cons ((cs_cons (soundpounceref09_Big_ V hV) cs_nil)) (calls_cons ((cs_cons (soundallow_Nonce_ V hV) cs_nil)) (calls_cons ((cs_cons (soundallow_Hash_ V hV) cs_nil)) (calls_nil rfl)))))))) rfl rfl Tryz.func4
theorem soundpouncelaw11_large_ (V : Ev) (hV : V.OK) : CallSound Tryz.prog (env V []) 10 ⟨sigpouncelaw11_large_, pouncelaw11_large_ V⟩ := by
  rw [← rawpouncelaw11_large_ V]
  exact aFn_sound (E2 := env V []) (envOK V hV (callspouncelaw11_large_ V) (by kernel_rfl) (calls_cons ((cs_cons (soundpounceref09_Big_ V hV) cs_nil)) (calls_cons ((cs_cons (soundpounceref11_Big_ V hV) cs_nil)) (calls_nil rfl)))) rfl rfl Tryz.func10
theorem soundpouncelaw11_AllowWitness_ (V : Ev) (hV : V.OK) : CallSound Tryz.prog (env V []) 3 ⟨sigpouncelaw11_AllowWitness_, pouncelaw11_AllowWitness_ V⟩ := by
  rw [← rawpouncelaw11_AllowWitness_ V]
  exact aFn_sound (E2 := env V []) (envOK V hV (callspouncelaw11_AllowWitness_ V) (by kernel_rfl) (calls_cons ((cs_cons (soundpouncelaw11_large_ V hV) cs_nil)) (calls_cons ((cs_cons (soundallow_Inline_ V hV) cs_nil)) (calls_cons ((cs_cons (soundpouncelaw11_allows_ V hV) cs_nil)) (calls_cons ((cs_cons (soundpouncelaw11_has_ V hV) cs_nil)) (calls_cons ((cs_cons (soundmark_Of_ V hV) cs_nil)) (calls_cons ((cs_cons (soundallow_Loose_ V hV) cs_nil)) (calls_nil rfl)))))))) rfl rfl Tryz.func3
end Go.En.Allow
