/- Text S of this seat: written by a program of ours, or by hand; checked by Lean. -/
import Derived.Test.YtgclokmkoningaaDoorG
import Derived.Test.YtgclokmkoningaaDoorLay
set_option linter.unusedVariables false
namespace Go.En.Ent
open Go.Proofs
theorem eqsOK : ∀ t, eqs.contains t = true → EqTy Tryd.prog t :=
  (eqs_cons ⟨by kernel_rfl, by kernel_rfl, by kernel_rfl, by kernel_rfl⟩ (eqs_cons ⟨by kernel_rfl, by kernel_rfl, by kernel_rfl, by kernel_rfl⟩ eqs_nil))
theorem extsOK : ∀ f x, exts.lookup f = some x → ExtOK Tryd.prog f x :=
  (exts_cons (ext_indexByte Tryd.func34 (by kernel_rfl) (by kernel_rfl) (by kernel_rfl) (by kernel_rfl)) exts_nil)
theorem envOK (V : Ev) (hV : V.OK) (l : List (FuncId × List CSpec)) (h1 : l.all (fun p => EnterOK Tryd.prog p.1) = true) (h2 : ∀ g s, s ∈ ((l.lookup g).getD []) → CallSound Tryd.prog (env V []) g s) : EnvOK Tryd.prog (env V l) where
  types := TypesOK.of_tab rfl (tabOK V l) eqsOK
  calls := fun g s hs => (h2 g s hs).env rfl rfl
  mixed := by kernel_rfl
  ext := fun f h => extsOK f _ h rfl
  it := hV.it
  enters := enters_of_all h1

theorem soundF26 (V : Ev) (hV : V.OK) : CallSound Tryd.prog (env V []) 26 ⟨sigF26, F26 V⟩ := by
  rw [← rawF26 V]
  exact aFn_sound (E2 := env V []) (envOK V hV (callsF26 V) (by kernel_rfl) (calls_nil rfl)) rfl rfl Tryd.func26
theorem soundF17 (V : Ev) (hV : V.OK) : CallSound Tryd.prog (env V []) 17 ⟨sigF17, F17 V⟩ := by
  rw [← rawF17 V]
  exact aFn_sound (E2 := env V []) (envOK V hV (callsF17 V) (by kernel_rfl) (calls_cons ((cs_cons (soundF26 V hV) cs_nil)) (calls_nil rfl))) rfl rfl Tryd.func17
theorem soundF36 (V : Ev) (hV : V.OK) : CallSound Tryd.prog (env V []) 36 ⟨sigF36, F36 V⟩ := by
  rw [← rawF36 V]
  exact aFn_sound (E2 := env V []) (envOK V hV (callsF36 V) (by kernel_rfl) (calls_cons ((cs_cons (soundF26 V hV) cs_nil)) (calls_nil rfl))) rfl rfl Tryd.func36
theorem soundF28 (V : Ev) (hV : V.OK) : CallSound Tryd.prog (env V []) 28 ⟨sigF28, F28 V⟩ := by
  rw [← rawF28 V]
  exact aFn_sound (E2 := env V []) (envOK V hV (callsF28 V) (by kernel_rfl) (calls_cons ((cs_cons (soundF36 V hV) cs_nil)) (calls_nil rfl))) rfl rfl Tryd.func28
theorem soundF25 (V : Ev) (hV : V.OK) : CallSound Tryd.prog (env V []) 25 ⟨sigF25, F25 V⟩ := by
  rw [← rawF25 V]
  exact aFn_sound (E2 := env V []) (envOK V hV (callsF25 V) (by kernel_rfl) (calls_nil rfl)) rfl rfl Tryd.func25
theorem soundF33 (V : Ev) (hV : V.OK) : CallSound Tryd.prog (env V []) 33 ⟨sigF33, F33 V⟩ := by
  rw [← rawF33 V]
  exact aFn_sound (E2 := env V []) (envOK V hV (callsF33 V) (by kernel_rfl) (calls_nil rfl)) rfl rfl Tryd.func33
theorem soundF42 (V : Ev) (hV : V.OK) : CallSound Tryd.prog (env V []) 42 ⟨sigF42, F42 V⟩ := by
  rw [← rawF42 V]
  exact aFn_sound (E2 := env V []) (envOK V hV (callsF42 V) (by kernel_rfl) (calls_nil rfl)) rfl rfl Tryd.func42
theorem soundF32 (V : Ev) (hV : V.OK) : CallSound Tryd.prog (env V []) 32 ⟨sigF32, F32 V⟩ := by
  rw [← rawF32 V]
  exact aFn_sound (E2 := env V []) (envOK V hV (callsF32 V) (by kernel_rfl) (calls_cons ((cs_cons (soundF42 V hV) cs_nil)) (calls_nil rfl))) rfl rfl Tryd.func32
theorem soundF12 (V : Ev) (hV : V.OK) : CallSound Tryd.prog (env V []) 12 ⟨sigF12, F12 V⟩ := by
  rw [← rawF12 V]
  exact aFn_sound (E2 := env V []) (envOK V hV (callsF12 V) (by kernel_rfl) (calls_cons ((cs_cons (soundF25 V hV) cs_nil)) (calls_nil rfl))) rfl rfl Tryd.func12
theorem soundF24 (V : Ev) (hV : V.OK) : CallSound Tryd.prog (env V []) 24 ⟨sigF24, F24 V⟩ := by
  rw [← rawF24 V]
  exact aFn_sound (E2 := env V []) (envOK V hV (callsF24 V) (by kernel_rfl) (calls_cons ((cs_cons (soundF12 V hV) cs_nil)) (calls_cons ((cs_cons (soundF25 V hV) cs_nil)) (calls_cons ((cs_cons (soundF32 V hV) cs_nil)) (calls_cons ((cs_cons (soundF33 V hV) cs_nil)) (calls_nil rfl)))))) rfl rfl Tryd.func24
theorem soundF12b (V : Ev) (hV : V.OK) : CallSound Tryd.prog (env V []) 12 ⟨sigF12b, F12b V⟩ := by
  rw [← rawF12b V]
  exact aFn_sound (E2 := env V []) (envOK V hV (callsF12b V) (by kernel_rfl) (calls_cons ((cs_cons (soundF25 V hV) cs_nil)) (calls_nil rfl))) rfl rfl Tryd.func12
theorem soundF23 (V : Ev) (hV : V.OK) : CallSound Tryd.prog (env V []) 23 ⟨sigF23, F23 V⟩ := by
  rw [← rawF23 V]
  exact aFn_sound (E2 := env V []) (envOK V hV (callsF23 V) (by kernel_rfl) (calls_nil rfl)) rfl rfl Tryd.func23
theorem soundF10 (V : Ev) (hV : V.OK) : CallSound Tryd.prog (env V []) 10 ⟨sigF10, F10 V⟩ := by
  rw [← rawF10 V]
  exact aFn_sound (E2 := env V []) (envOK V hV (callsF10 V) (by kernel_rfl) (calls_cons ((cs_cons (soundF23 V hV) cs_nil)) (calls_cons ((cs_cons (soundF24 V hV) cs_nil)) (calls_nil rfl)))) rfl rfl Tryd.func10
theorem soundF16 (V : Ev) (hV : V.OK) : CallSound Tryd.prog (env V []) 16 ⟨sigF16, F16 V⟩ := by
  rw [← rawF16 V]
  exact aFn_sound (E2 := env V []) (envOK V hV (callsF16 V) (by kernel_rfl) (calls_nil rfl)) rfl rfl Tryd.func16
theorem soundF14 (V : Ev) (hV : V.OK) : CallSound Tryd.prog (env V []) 14 ⟨sigF14, F14 V⟩ := by
  rw [← rawF14 V]
  exact aFn_sound (E2 := env V []) (envOK V hV (callsF14 V) (by kernel_rfl) (calls_nil rfl)) rfl rfl Tryd.func14
theorem soundF11 (V : Ev) (hV : V.OK) : CallSound Tryd.prog (env V []) 11 ⟨sigF11, F11 V⟩ := by
  rw [← rawF11 V]
  exact aFn_sound (E2 := env V []) (envOK V hV (callsF11 V) (by kernel_rfl) (calls_nil rfl)) rfl rfl Tryd.func11
theorem soundF47 (V : Ev) (hV : V.OK) : CallSound Tryd.prog (env V []) 47 ⟨sigF47, F47 V⟩ := by
  rw [← rawF47 V]
  exact aFn_sound (E2 := env V []) (envOK V hV (callsF47 V) (by kernel_rfl) (calls_cons ((cs_cons (soundF36 V hV) cs_nil)) (calls_nil rfl))) rfl rfl Tryd.func47
theorem soundF38 (V : Ev) (hV : V.OK) : CallSound Tryd.prog (env V []) 38 ⟨sigF38, F38 V⟩ := by
  rw [← rawF38 V]
  exact aFn_sound (E2 := env V []) (envOK V hV (callsF38 V) (by kernel_rfl) (calls_cons ((cs_cons (soundF47 V hV) cs_nil)) (calls_nil rfl))) rfl rfl Tryd.func38
theorem soundF58 (V : Ev) (hV : V.OK) : CallSound Tryd.prog (env V []) 58 ⟨sigF58, F58 V⟩ := by
  rw [← rawF58 V]
  exact aFn_sound (E2 := env V []) (envOK V hV (callsF58 V) (by kernel_rfl) (calls_nil rfl)) rfl rfl Tryd.func58
theorem soundF59 (V : Ev) (hV : V.OK) : CallSound Tryd.prog (env V []) 59 ⟨sigF59, F59 V⟩ := by
  rw [← rawF59 V]
  exact aFn_sound (E2 := env V []) (envOK V hV (callsF59 V) (by kernel_rfl) (calls_cons ((cs_cons (soundF58 V hV) cs_nil)) (calls_nil rfl))) rfl rfl Tryd.func59
theorem soundF52 (V : Ev) (hV : V.OK) : CallSound Tryd.prog (env V []) 52 ⟨sigF52, F52 V⟩ := by
  rw [← rawF52 V]
  exact aFn_sound (E2 := env V []) (envOK V hV (callsF52 V) (by kernel_rfl) (calls_cons ((cs_cons (soundF58 V hV) cs_nil)) (calls_cons ((cs_cons (soundF59 V hV) cs_nil)) (calls_nil rfl)))) rfl rfl Tryd.func52
theorem soundF48 (V : Ev) (hV : V.OK) : CallSound Tryd.prog (env V []) 48 ⟨sigF48, F48 V⟩ := by
  rw [← rawF48 V]
  exact aFn_sound (E2 := env V []) (envOK V hV (callsF48 V) (by kernel_rfl) (calls_cons ((cs_cons (soundF52 V hV) cs_nil)) (calls_nil rfl))) rfl rfl Tryd.func48
theorem soundF60 (V : Ev) (hV : V.OK) : CallSound Tryd.prog (env V []) 60 ⟨sigF60, F60 V⟩ := by
  rw [← rawF60 V]
  exact aFn_sound (E2 := env V []) (envOK V hV (callsF60 V) (by kernel_rfl) (calls_nil rfl)) rfl rfl Tryd.func60
theorem soundF53 (V : Ev) (hV : V.OK) : CallSound Tryd.prog (env V []) 53 ⟨sigF53, F53 V⟩ := by
  rw [← rawF53 V]
  exact aFn_sound (E2 := env V []) (envOK V hV (callsF53 V) (by kernel_rfl) (calls_cons ((cs_cons (soundF60 V hV) cs_nil)) (calls_nil rfl))) rfl rfl Tryd.func53
theorem soundF54 (V : Ev) (hV : V.OK) : CallSound Tryd.prog (env V []) 54 ⟨sigF54, F54 V⟩ := by
  rw [← rawF54 V]
  exact aFn_sound (E2 := env V []) (envOK V hV (callsF54 V) (by kernel_rfl) (calls_cons ((cs_cons (soundF60 V hV) cs_nil)) (calls_nil rfl))) rfl rfl Tryd.func54
theorem soundF49 (V : Ev) (hV : V.OK) : CallSound Tryd.prog (env V []) 49 ⟨sigF49, F49 V⟩ := by
  rw [← rawF49 V]
  exact aFn_sound (E2 := env V []) (envOK V hV (callsF49 V) (by kernel_rfl) (calls_cons ((cs_cons (soundF53 V hV) cs_nil)) (calls_cons ((cs_cons (soundF54 V hV) cs_nil)) (calls_nil rfl)))) rfl rfl Tryd.func49
theorem soundF39 (V : Ev) (hV : V.OK) : CallSound Tryd.prog (env V []) 39 ⟨sigF39, F39 V⟩ := by
  rw [← rawF39 V]
  exact aFn_sound (E2 := env V []) (envOK V hV (callsF39 V) (by kernel_rfl) (calls_cons ((cs_cons (soundF48 V hV) cs_nil)) (calls_cons ((cs_cons (soundF49 V hV) cs_nil)) (calls_nil rfl)))) rfl rfl Tryd.func39
theorem soundF30 (V : Ev) (hV : V.OK) : CallSound Tryd.prog (env V []) 30 ⟨sigF30, F30 V⟩ := by
  rw [← rawF30 V]
  exact aFn_sound (E2 := env V []) (envOK V hV (callsF30 V) (by kernel_rfl) (calls_cons ((cs_cons (soundF38 V hV) cs_nil)) (calls_cons ((cs_cons (soundF39 V hV) cs_nil)) (calls_nil rfl)))) rfl rfl Tryd.func30
theorem soundF46 (V : Ev) (hV : V.OK) : CallSound Tryd.prog (env V []) 46 ⟨sigF46, F46 V⟩ := by
  rw [← rawF46 V]
  exact aFn_sound (E2 := env V []) (envOK V hV (callsF46 V) (by kernel_rfl) (calls_nil rfl)) rfl rfl Tryd.func46
theorem soundF37 (V : Ev) (hV : V.OK) : CallSound Tryd.prog (env V []) 37 ⟨sigF37, F37 V⟩ := by
  rw [← rawF37 V]
  exact aFn_sound (E2 := env V []) (envOK V hV (callsF37 V) (by kernel_rfl) (calls_cons ((cs_cons (soundF46 V hV) cs_nil)) (calls_nil rfl))) rfl rfl Tryd.func37
theorem soundF29 (V : Ev) (hV : V.OK) : CallSound Tryd.prog (env V []) 29 ⟨sigF29, F29 V⟩ := by
  rw [← rawF29 V]
  exact aFn_sound (E2 := env V []) (envOK V hV (callsF29 V) (by kernel_rfl) (calls_cons ((cs_cons (soundF37 V hV) cs_nil)) (calls_nil rfl))) rfl rfl Tryd.func29
theorem soundF39b (V : Ev) (hV : V.OK) : CallSound Tryd.prog (env V []) 39 ⟨sigF39b, F39b V⟩ := by
  rw [← rawF39b V]
  exact aFn_sound (E2 := env V []) (envOK V hV (callsF39b V) (by kernel_rfl) (calls_cons ((cs_cons (soundF48 V hV) cs_nil)) (calls_cons ((cs_cons (soundF49 V hV) cs_nil)) (calls_nil rfl)))) rfl rfl Tryd.func39
theorem soundF40 (V : Ev) (hV : V.OK) : CallSound Tryd.prog (env V []) 40 ⟨sigF40, F40 V⟩ := by
  rw [← rawF40 V]
  exact aFn_sound (E2 := env V []) (envOK V hV (callsF40 V) (by kernel_rfl) (calls_nil rfl)) rfl rfl Tryd.func40
theorem soundF27 (V : Ev) : CallSound Tryd.prog (env V []) 27 ⟨sigF27, F27 V⟩ :=
  copyCheck_sound (fun b w h0 h1 h2 => Any.Builder_copyCheck_fresh lays laysX b w h0 h1 h2) (fun b w h0 => Any.Builder_copyCheck_used lays laysX b w h0) ⟨.inr rfl, .inr (.inl rfl)⟩ (fun t u h ren => by cases h; rfl)
theorem soundF57b (V : Ev) (hV : V.OK) : CallSound Tryd.prog (env V []) 57 ⟨sigF57b, F57b V⟩ := by
  rw [← rawF57b V]
  exact aFn_sound (E2 := env V []) (envOK V hV (callsF57b V) (by kernel_rfl) (calls_nil rfl)) rfl rfl Tryd.func57
theorem soundF50b (V : Ev) (hV : V.OK) : CallSound Tryd.prog (env V []) 50 ⟨sigF50b, F50b V⟩ := by
  rw [← rawF50b V]
  exact aFn_sound (E2 := env V []) (envOK V hV (callsF50b V) (by kernel_rfl) (calls_cons ((cs_cons (soundF57b V hV) cs_nil)) (calls_nil rfl))) rfl rfl Tryd.func50
theorem soundF41 (V : Ev) (hV : V.OK) : CallSound Tryd.prog (env V []) 41 ⟨sigF41, F41 V⟩ := by
  rw [← rawF41 V]
  exact aFn_sound (E2 := env V []) (envOK V hV (callsF41 V) (by kernel_rfl) (calls_cons ((cs_cons (soundF27 V) cs_nil)) (calls_cons ((cs_cons (soundF50b V hV) cs_nil)) (calls_nil rfl)))) rfl rfl Tryd.func41
theorem soundF27b (V : Ev) : CallSound Tryd.prog (env V []) 27 ⟨sigF27b, F27b V⟩ :=
  copyCheck_sound (fun b w h0 h1 h2 => Any.Builder_copyCheck_fresh lays laysX b w h0 h1 h2) (fun b w h0 => Any.Builder_copyCheck_used lays laysX b w h0) ⟨.inl rfl, .inl rfl⟩ (fun t u h ren => by cases h; rfl)
theorem soundF57c (V : Ev) (hV : V.OK) : CallSound Tryd.prog (env V []) 57 ⟨sigF57c, F57c V⟩ := by
  rw [← rawF57c V]
  exact aFn_sound (E2 := env V []) (envOK V hV (callsF57c V) (by kernel_rfl) (calls_nil rfl)) rfl rfl Tryd.func57
theorem soundF50c (V : Ev) (hV : V.OK) : CallSound Tryd.prog (env V []) 50 ⟨sigF50c, F50c V⟩ := by
  rw [← rawF50c V]
  exact aFn_sound (E2 := env V []) (envOK V hV (callsF50c V) (by kernel_rfl) (calls_cons ((cs_cons (soundF57b V hV) (cs_cons (soundF57c V hV) cs_nil))) (calls_nil rfl))) rfl rfl Tryd.func50
theorem soundF41b (V : Ev) (hV : V.OK) : CallSound Tryd.prog (env V []) 41 ⟨sigF41b, F41b V⟩ := by
  rw [← rawF41b V]
  exact aFn_sound (E2 := env V []) (envOK V hV (callsF41b V) (by kernel_rfl) (calls_cons ((cs_cons (soundF27 V) (cs_cons (soundF27b V) cs_nil))) (calls_cons ((cs_cons (soundF50b V hV) (cs_cons (soundF50c V hV) cs_nil))) (calls_nil rfl)))) rfl rfl Tryd.func41
theorem soundF22 (V : Ev) (hV : V.OK) : CallSound Tryd.prog (env V []) 22 ⟨sigF22, F22 V⟩ := by
  rw [← rawF22 V]
  exact aFn_sound (E2 := env V []) (envOK V hV (callsF22 V) (by kernel_rfl) (calls_nil rfl)) rfl rfl Tryd.func22
theorem soundF31 (V : Ev) (hV : V.OK) : CallSound Tryd.prog (env V []) 31 ⟨sigF31, F31 V⟩ := by
  rw [← rawF31 V]
  exact aFn_sound (E2 := env V []) (envOK V hV (callsF31 V) (by kernel_rfl) (calls_cons ((cs_cons (soundF22 V hV) cs_nil)) (calls_cons ((cs_cons (soundF40 V hV) cs_nil)) (calls_cons ((cs_cons (soundF41 V hV) (cs_cons (soundF41b V hV) cs_nil))) (calls_nil rfl))))) rfl rfl Tryd.func31
theorem soundF20 (V : Ev) (hV : V.OK) : CallSound Tryd.prog (env V []) 20 ⟨sigF20, F20 V⟩ := by
  rw [← rawF20 V]
  exact aFn_sound (E2 := env V []) (envOK V hV (callsF20 V) (by kernel_rfl) (calls_cons ((cs_cons (soundF11 V hV) cs_nil)) (calls_cons ((cs_cons (soundF29 V hV) cs_nil)) (calls_cons ((cs_cons (soundF30 V hV) cs_nil)) (calls_cons ((cs_cons (soundF31 V hV) cs_nil)) (calls_nil rfl)))))) rfl rfl Tryd.func20
theorem soundF18 (V : Ev) (hV : V.OK) : CallSound Tryd.prog (env V []) 18 ⟨sigF18, F18 V⟩ := by
  rw [← rawF18 V]
  exact aFn_sound (E2 := env V []) (envOK V hV (callsF18 V) (by kernel_rfl) (calls_cons ((cs_cons (soundF27 V) (cs_cons (soundF27b V) cs_nil))) (calls_nil rfl))) rfl rfl Tryd.func18
theorem soundF19 (V : Ev) (hV : V.OK) : CallSound Tryd.prog (env V []) 19 ⟨sigF19, F19 V⟩ := by
  rw [← rawF19 V]
  exact aFn_sound (E2 := env V []) (envOK V hV (callsF19 V) (by kernel_rfl) (calls_cons ((cs_cons (soundF28 V hV) cs_nil)) (calls_nil rfl))) rfl rfl Tryd.func19
theorem soundF21 (V : Ev) (hV : V.OK) : CallSound Tryd.prog (env V []) 21 ⟨sigF21, F21 V⟩ := by
  rw [← rawF21 V]
  exact aFn_sound (E2 := env V []) (envOK V hV (callsF21 V) (by kernel_rfl) (calls_cons ((cs_cons (soundF27 V) (cs_cons (soundF27b V) cs_nil))) (calls_nil rfl))) rfl rfl Tryd.func21
theorem soundF18b (V : Ev) (hV : V.OK) : CallSound Tryd.prog (env V []) 18 ⟨sigF18b, F18b V⟩ := by
  rw [← rawF18b V]
  exact aFn_sound (E2 := env V []) (envOK V hV (callsF18b V) (by kernel_rfl) (calls_cons ((cs_cons (soundF27 V) (cs_cons (soundF27b V) cs_nil))) (calls_nil rfl))) rfl rfl Tryd.func18
theorem soundF18c (V : Ev) (hV : V.OK) : CallSound Tryd.prog (env V []) 18 ⟨sigF18c, F18c V⟩ := by
  rw [← rawF18c V]
  exact aFn_sound (E2 := env V []) (envOK V hV (callsF18c V) (by kernel_rfl) (calls_cons ((cs_cons (soundF27 V) (cs_cons (soundF27b V) cs_nil))) (calls_nil rfl))) rfl rfl Tryd.func18
theorem soundF9 (V : Ev) (hV : V.OK) : CallSound Tryd.prog (env V []) 9 ⟨sigF9, F9 V⟩ := by
  rw [← rawF9 V]
  exact aFn_sound (E2 := env V []) (envOK V hV (callsF9 V) (by kernel_rfl) (calls_cons ((cs_cons (soundF17 V hV) cs_nil)) (calls_cons ((cs_cons (soundF18 V hV) (cs_cons (soundF18b V hV) (cs_cons (soundF18c V hV) cs_nil)))) (calls_cons ((cs_cons (soundF19 V hV) cs_nil)) (calls_cons ((cs_cons (soundF20 V hV) cs_nil)) (calls_cons ((cs_cons (soundF21 V hV) cs_nil)) (calls_cons ((cs_cons (soundF22 V hV) cs_nil)) (calls_nil rfl)))))))) rfl rfl Tryd.func9
theorem soundF21b (V : Ev) (hV : V.OK) : CallSound Tryd.prog (env V []) 21 ⟨sigF21b, F21b V⟩ := by
  rw [← rawF21b V]
  exact aFn_sound (E2 := env V []) (envOK V hV (callsF21b V) (by kernel_rfl) (calls_cons ((cs_cons (soundF27 V) (cs_cons (soundF27b V) cs_nil))) (calls_nil rfl))) rfl rfl Tryd.func21
theorem soundF21c (V : Ev) (hV : V.OK) : CallSound Tryd.prog (env V []) 21 ⟨sigF21c, F21c V⟩ := by
  rw [← rawF21c V]
  exact aFn_sound (E2 := env V []) (envOK V hV (callsF21c V) (by kernel_rfl) (calls_cons ((cs_cons (soundF27 V) (cs_cons (soundF27b V) cs_nil))) (calls_nil rfl))) rfl rfl Tryd.func21
theorem soundF15 (V : Ev) (hV : V.OK) : CallSound Tryd.prog (env V []) 15 ⟨sigF15, F15 V⟩ := by
  rw [← rawF15 V]
  exact aFn_sound (E2 := env V []) (envOK V hV (callsF15 V) (by kernel_rfl) (calls_cons ((cs_cons (soundF18 V hV) (cs_cons (soundF18b V hV) (cs_cons (soundF18c V hV) cs_nil)))) (calls_cons ((cs_cons (soundF21 V hV) (cs_cons (soundF21b V hV) (cs_cons (soundF21c V hV) cs_nil)))) (calls_cons ((cs_cons (soundF22 V hV) cs_nil)) (calls_nil rfl))))) rfl rfl Tryd.func15
theorem soundF13 (V : Ev) (hV : V.OK) : CallSound Tryd.prog (env V []) 13 ⟨sigF13, F13 V⟩ := by
  rw [← rawF13 V]
  exact aFn_sound (E2 := env V []) (envOK V hV (callsF13 V) (by kernel_rfl) (calls_cons ((cs_cons (soundF9 V hV) cs_nil)) (calls_cons ((cs_cons (soundF11 V hV) cs_nil)) (calls_cons ((cs_cons (soundF14 V hV) cs_nil)) (calls_cons ((cs_cons (soundF15 V hV) cs_nil)) (calls_nil rfl)))))) rfl rfl Tryd.func13
theorem soundF3 (V : Ev) (hV : V.OK) : CallSound Tryd.prog (env V []) 3 ⟨sigF3, F3 V⟩ := by
  rw [← rawF3 V]
  exact aFn_sound (E2 := env V []) (envOK V hV (callsF3 V) (by kernel_rfl) (calls_cons ((cs_cons (soundF9 V hV) cs_nil)) (calls_cons ((cs_cons (soundF10 V hV) cs_nil)) (calls_cons ((cs_cons (soundF11 V hV) cs_nil)) (calls_cons ((cs_cons (soundF12 V hV) (cs_cons (soundF12b V hV) cs_nil))) (calls_cons ((cs_cons (soundF13 V hV) cs_nil)) (calls_cons ((cs_cons (soundF14 V hV) cs_nil)) (calls_nil rfl)))))))) rfl rfl Tryd.func3
theorem soundF4 (V : Ev) (hV : V.OK) : CallSound Tryd.prog (env V []) 4 ⟨sigF4, F4 V⟩ := by
  rw [← rawF4 V]
  exact aFn_sound (E2 := env V []) (envOK V hV (callsF4 V) (by kernel_rfl) (calls_cons ((cs_cons (soundF13 V hV) cs_nil)) (calls_cons ((cs_cons (soundF15 V hV) cs_nil)) (calls_cons ((cs_cons (soundF16 V hV) cs_nil)) (calls_nil rfl))))) rfl rfl Tryd.func4
theorem soundF5 (V : Ev) (hV : V.OK) : CallSound Tryd.prog (env V []) 5 ⟨sigF5, F5 V⟩ := by
  rw [← rawF5 V]
  exact aFn_sound (E2 := env V []) (envOK V hV (callsF5 V) (by kernel_rfl) (calls_cons ((cs_cons (soundF9 V hV) cs_nil)) (calls_cons ((cs_cons (soundF13 V hV) cs_nil)) (calls_cons ((cs_cons (soundF15 V hV) cs_nil)) (calls_nil rfl))))) rfl rfl Tryd.func5
theorem soundF6 (V : Ev) (hV : V.OK) : CallSound Tryd.prog (env V []) 6 ⟨sigF6, F6 V⟩ := by
  rw [← rawF6 V]
  exact aFn_sound (E2 := env V []) (envOK V hV (callsF6 V) (by kernel_rfl) (calls_cons ((cs_cons (soundF9 V hV) cs_nil)) (calls_cons ((cs_cons (soundF13 V hV) cs_nil)) (calls_nil rfl)))) rfl rfl Tryd.func6
theorem soundF7 (V : Ev) (hV : V.OK) : CallSound Tryd.prog (env V []) 7 ⟨sigF7, F7 V⟩ := by
  rw [← rawF7 V]
  exact aFn_sound (E2 := env V []) (envOK V hV (callsF7 V) (by kernel_rfl) (calls_cons ((cs_cons (soundF9 V hV) cs_nil)) (calls_cons ((cs_cons (soundF11 V hV) cs_nil)) (calls_cons ((cs_cons (soundF13 V hV) cs_nil)) (calls_nil rfl))))) rfl rfl Tryd.func7
theorem soundF8 (V : Ev) (hV : V.OK) : CallSound Tryd.prog (env V []) 8 ⟨sigF8, F8 V⟩ := by
  rw [← rawF8 V]
  exact aFn_sound (E2 := env V []) (envOK V hV (callsF8 V) (by kernel_rfl) (calls_cons ((cs_cons (soundF13 V hV) cs_nil)) (calls_cons ((cs_cons (soundF15 V hV) cs_nil)) (calls_nil rfl)))) rfl rfl Tryd.func8
end Go.En.Ent
