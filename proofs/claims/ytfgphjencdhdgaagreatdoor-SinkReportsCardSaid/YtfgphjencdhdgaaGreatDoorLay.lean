/- Text Lay of this seat: written by a program of ours, or by hand; checked by Lean. -/
import Derived.Test.YtfgphjencdhdgaaGreatDoorE14
import Derived.DeepKeys4
import Derived.Shelf.Strings.Builder1
import Derived.Test.YtfgphjencdhdgaaGreatDoorProg
set_option linter.unusedSimpArgs false
set_option linter.unusedVariables false
namespace Go.En.Pl
open Go.Shelf Go.Proofs
def rho : Ren := ⟨fun | 119 => 224 | 120 => 231 | 129 => 257 | 137 => 156 | 138 => 233 | 143 => 215 | 151 => 213 | 152 => 230 | 156 => 190 | 160 => 141 | 165 => 217 | 166 => 111 | 169 => 112 | 195 => 242 | 197 => 212 | 217 => 192 | 218 => 243 | 219 => 221 | 224 => 237 | 225 => 236 | 227 => 178 | 228 => 211 | 231 => 176 | 232 => 177 | 233 => 179 | 234 => 180 | 235 => 181 | 236 => 182 | 240 => 142 | 241 => 234 | 243 => 218 | 246 => 235 | 260 => 229 | 266 => 219 | 267 => 238 | 271 => 214 | 276 => 183 | 277 => 244 | 283 => 245 | 284 => 246 | 285 => 247 | 286 => 248 | 314 => 249 | 317 => 256 | 318 => 258 | 319 => 259 | 320 => 260 | 337 => 265 | 338 => 266 | x => x, fun | 0 => 0 | 2 => 2 | 3 => 3 | 4 => 4 | 5 => 5 | 9 => 9 | 20 => 20 | 21 => 21 | 31 => 77 | 37 => 50 | 46 => 248 | 51 => 262 | 53 => 257 | 70 => 143 | 72 => 145 | 75 => 147 | 76 => 148 | 80 => 150 | 105 => 227 | 116 => 205 | 117 => 206 | 119 => 251 | 124 => 209 | 127 => 184 | 138 => 253 | 139 => 254 | 146 => 263 | 164 => 210 | 171 => 256 | 173 => 260 | 212 => 272 | 213 => 273 | 232 => 283 | 233 => 284 | x => x, fun | 1 => 1 | 3 => 2 | 4 => 3 | 17 => 4 | 18 => 7 | 19 => 8 | x => x⟩
theorem lays : Lays.n240 Tryz.prog rho where
 mixed := by kernel_rfl
 f240 := by kernel_rfl
 f276 := by kernel_rfl
 t0 := Tryz.underlying0
 a0 := Tryz.isAgg0
 z0 := Tryz.sizeOf0
 v0 := Tryz.zeroValue0
 t4 := Tryz.underlying4
 a4 := Tryz.isAgg4
 z4 := Tryz.sizeOf4
 v4 := Tryz.zeroValue4
 t9 := Tryz.underlying9
 a9 := Tryz.isAgg9
 z9 := Tryz.sizeOf9
 v9 := Tryz.zeroValue9
 t20 := Tryz.underlying20
 a20 := Tryz.isAgg20
 z20 := Tryz.sizeOf20
 v20 := Tryz.zeroValue20
 t70 := Tryz.underlying143
 a70 := Tryz.isAgg143
 z70 := Tryz.sizeOf143
 v70 := Tryz.zeroValue143
 t72 := Tryz.underlying145
 a72 := Tryz.isAgg145
 z72 := Tryz.sizeOf145
 v72 := Tryz.zeroValue145
 t164 := Tryz.underlying210
 a164 := Tryz.isAgg210
 z164 := Tryz.sizeOf210
 v164 := Tryz.zeroValue210
theorem z5i : Lays.n219 Tryz.prog rho where
 mixed := by kernel_rfl
 f217 := by kernel_rfl
 f219 := by kernel_rfl
 f224 := by kernel_rfl
 f225 := by kernel_rfl
 f266 := by kernel_rfl
 f267 := by kernel_rfl
 f314 := by kernel_rfl
 t3 := Tryz.underlying3
 a3 := Tryz.isAgg3
 z3 := Tryz.sizeOf3
 v3 := Tryz.zeroValue3
 t4 := Tryz.underlying4
 a4 := Tryz.isAgg4
 z4 := Tryz.sizeOf4
 v4 := Tryz.zeroValue4
 t5 := Tryz.underlying5
 a5 := Tryz.isAgg5
 z5 := Tryz.sizeOf5
 v5 := Tryz.zeroValue5
 t9 := Tryz.underlying9
 a9 := Tryz.isAgg9
 z9 := Tryz.sizeOf9
 v9 := Tryz.zeroValue9
 t46 := Tryz.underlying248
 a46 := Tryz.isAgg248
 z46 := Tryz.sizeOf248
 v46 := Tryz.zeroValue248
 t51 := Tryz.underlying262
 a51 := Tryz.isAgg262
 z51 := Tryz.sizeOf262
 v51 := Tryz.zeroValue262
 t146 := Tryz.underlying263
 a146 := Tryz.isAgg263
 z146 := Tryz.sizeOf263
 v146 := Tryz.zeroValue263
 g1 := by kernel_rfl
theorem z6h : Lays.n160 Tryz.prog rho where
 mixed := by kernel_rfl
 f119 := by kernel_rfl
 f120 := by kernel_rfl
 f137 := by kernel_rfl
 f151 := by kernel_rfl
 f152 := by kernel_rfl
 f160 := by kernel_rfl
 f197 := by kernel_rfl
 f217 := by kernel_rfl
 f224 := by kernel_rfl
 f225 := by kernel_rfl
 f227 := by kernel_rfl
 f228 := by kernel_rfl
 f231 := by kernel_rfl
 f232 := by kernel_rfl
 f233 := by kernel_rfl
 f234 := by kernel_rfl
 f235 := by kernel_rfl
 f236 := by kernel_rfl
 f260 := by kernel_rfl
 f266 := by kernel_rfl
 f271 := by kernel_rfl
 t0 := Tryz.underlying0
 a0 := Tryz.isAgg0
 z0 := Tryz.sizeOf0
 v0 := Tryz.zeroValue0
 t3 := Tryz.underlying3
 a3 := Tryz.isAgg3
 z3 := Tryz.sizeOf3
 v3 := Tryz.zeroValue3
 t4 := Tryz.underlying4
 a4 := Tryz.isAgg4
 z4 := Tryz.sizeOf4
 v4 := Tryz.zeroValue4
 t5 := Tryz.underlying5
 a5 := Tryz.isAgg5
 z5 := Tryz.sizeOf5
 v5 := Tryz.zeroValue5
 t9 := Tryz.underlying9
 a9 := Tryz.isAgg9
 z9 := Tryz.sizeOf9
 v9 := Tryz.zeroValue9
 t21 := Tryz.underlying21
 a21 := Tryz.isAgg21
 z21 := Tryz.sizeOf21
 v21 := Tryz.zeroValue21
 t46 := Tryz.underlying248
 a46 := Tryz.isAgg248
 z46 := Tryz.sizeOf248
 v46 := Tryz.zeroValue248
 t105 := Tryz.underlying227
 a105 := Tryz.isAgg227
 z105 := Tryz.sizeOf227
 v105 := Tryz.zeroValue227
 t116 := Tryz.underlying205
 a116 := Tryz.isAgg205
 z116 := Tryz.sizeOf205
 t117 := Tryz.underlying206
 a117 := Tryz.isAgg206
 z117 := Tryz.sizeOf206
 v117 := Tryz.zeroValue206
 t119 := Tryz.underlying251
 a119 := Tryz.isAgg251
 z119 := Tryz.sizeOf251
 t124 := Tryz.underlying209
 a124 := Tryz.isAgg209
 z124 := Tryz.sizeOf209
 v124 := Tryz.zeroValue209
 t138 := Tryz.underlying253
 a138 := Tryz.isAgg253
 z138 := Tryz.sizeOf253
 v138 := Tryz.zeroValue253
 t139 := Tryz.underlying254
 a139 := Tryz.isAgg254
 z139 := Tryz.sizeOf254
 v139 := Tryz.zeroValue254
 g3 := by kernel_rfl
 g4 := by kernel_rfl
theorem z7p : Lays.n138 Tryz.prog rho where
 mixed := by kernel_rfl
 f138 := by kernel_rfl
 f143 := by kernel_rfl
 f195 := by kernel_rfl
 f217 := by kernel_rfl
 f218 := by kernel_rfl
 f219 := by kernel_rfl
 f224 := by kernel_rfl
 f225 := by kernel_rfl
 f266 := by kernel_rfl
 f267 := by kernel_rfl
 f314 := by kernel_rfl
 t0 := Tryz.underlying0
 a0 := Tryz.isAgg0
 z0 := Tryz.sizeOf0
 v0 := Tryz.zeroValue0
 t3 := Tryz.underlying3
 a3 := Tryz.isAgg3
 z3 := Tryz.sizeOf3
 v3 := Tryz.zeroValue3
 t4 := Tryz.underlying4
 a4 := Tryz.isAgg4
 z4 := Tryz.sizeOf4
 v4 := Tryz.zeroValue4
 t5 := Tryz.underlying5
 a5 := Tryz.isAgg5
 z5 := Tryz.sizeOf5
 v5 := Tryz.zeroValue5
 t9 := Tryz.underlying9
 a9 := Tryz.isAgg9
 z9 := Tryz.sizeOf9
 v9 := Tryz.zeroValue9
 t46 := Tryz.underlying248
 a46 := Tryz.isAgg248
 z46 := Tryz.sizeOf248
 v46 := Tryz.zeroValue248
 t51 := Tryz.underlying262
 a51 := Tryz.isAgg262
 z51 := Tryz.sizeOf262
 v51 := Tryz.zeroValue262
 t146 := Tryz.underlying263
 a146 := Tryz.isAgg263
 z146 := Tryz.sizeOf263
 v146 := Tryz.zeroValue263
 g1 := by kernel_rfl
theorem z6i : LaysM.n243 Tryz.prog rho where
 mixed := by kernel_rfl
 f129 := by kernel_rfl
 f243 := by kernel_rfl
 f246 := by kernel_rfl
 f283 := by kernel_rfl
 f284 := by kernel_rfl
 f285 := by kernel_rfl
 f286 := by kernel_rfl
 f317 := by kernel_rfl
 f318 := by kernel_rfl
 f319 := by kernel_rfl
 f320 := by kernel_rfl
 f337 := by kernel_rfl
 f338 := by kernel_rfl
 t0 := Tryz.underlying0
 a0 := Tryz.isAgg0
 z0 := Tryz.sizeOf0
 v0 := Tryz.zeroValue0
 t2 := Tryz.underlying2
 a2 := Tryz.isAgg2
 z2 := Tryz.sizeOf2
 v2 := Tryz.zeroValue2
 t3 := Tryz.underlying3
 a3 := Tryz.isAgg3
 z3 := Tryz.sizeOf3
 v3 := Tryz.zeroValue3
 t4 := Tryz.underlying4
 a4 := Tryz.isAgg4
 z4 := Tryz.sizeOf4
 v4 := Tryz.zeroValue4
 t5 := Tryz.underlying5
 a5 := Tryz.isAgg5
 z5 := Tryz.sizeOf5
 v5 := Tryz.zeroValue5
 t9 := Tryz.underlying9
 a9 := Tryz.isAgg9
 z9 := Tryz.sizeOf9
 v9 := Tryz.zeroValue9
 t20 := Tryz.underlying20
 a20 := Tryz.isAgg20
 z20 := Tryz.sizeOf20
 v20 := Tryz.zeroValue20
 t37 := Tryz.underlying50
 a37 := Tryz.isAgg50
 z37 := Tryz.sizeOf50
 v37 := Tryz.zeroValue50
 t46 := Tryz.underlying248
 a46 := Tryz.isAgg248
 z46 := Tryz.sizeOf248
 v46 := Tryz.zeroValue248
 t51 := Tryz.underlying262
 a51 := Tryz.isAgg262
 z51 := Tryz.sizeOf262
 v51 := Tryz.zeroValue262
 t53 := Tryz.underlying257
 a53 := Tryz.isAgg257
 z53 := Tryz.sizeOf257
 v53 := Tryz.zeroValue257
 t171 := Tryz.underlying256
 a171 := Tryz.isAgg256
 z171 := Tryz.sizeOf256
 v171 := Tryz.zeroValue256
 t173 := Tryz.underlying260
 a173 := Tryz.isAgg260
 z173 := Tryz.sizeOf260
 v173 := Tryz.zeroValue260
 t212 := Tryz.underlying272
 a212 := Tryz.isAgg272
 z212 := Tryz.sizeOf272
 v212 := Tryz.zeroValue272
 t213 := Tryz.underlying273
 a213 := Tryz.isAgg273
 z213 := Tryz.sizeOf273
 t232 := Tryz.underlying283
 a232 := Tryz.isAgg283
 z232 := Tryz.sizeOf283
 v232 := Tryz.zeroValue283
 t233 := Tryz.underlying284
 a233 := Tryz.isAgg284
 z233 := Tryz.sizeOf284
 v233 := Tryz.zeroValue284
 g17 := by kernel_rfl
 g18 := by kernel_rfl
 g19 := by kernel_rfl
 i0 := by kernel_rfl
 i2 := by kernel_rfl
 i3 := by kernel_rfl
 i4 := by kernel_rfl
 i5 := by kernel_rfl
 i9 := by kernel_rfl
 i20 := by kernel_rfl
 i37 := by kernel_rfl
 i46 := by kernel_rfl
 i51 := by kernel_rfl
 i53 := by kernel_rfl
 i171 := by kernel_rfl
 i173 := by kernel_rfl
 i212 := by kernel_rfl
 i232 := by kernel_rfl
 i233 := by kernel_rfl
 m17 := by kernel_rfl
 m18 := by kernel_rfl
 m19 := by kernel_rfl
theorem z71 : Lays.n156 Tryz.prog rho where
 mixed := by kernel_rfl
 f156 := by kernel_rfl
 f165 := by kernel_rfl
 f166 := by kernel_rfl
 f169 := by kernel_rfl
 f240 := by kernel_rfl
 f241 := by kernel_rfl
 f276 := by kernel_rfl
 f277 := by kernel_rfl
 t0 := Tryz.underlying0
 a0 := Tryz.isAgg0
 z0 := Tryz.sizeOf0
 v0 := Tryz.zeroValue0
 t3 := Tryz.underlying3
 a3 := Tryz.isAgg3
 z3 := Tryz.sizeOf3
 v3 := Tryz.zeroValue3
 t4 := Tryz.underlying4
 a4 := Tryz.isAgg4
 z4 := Tryz.sizeOf4
 v4 := Tryz.zeroValue4
 t9 := Tryz.underlying9
 a9 := Tryz.isAgg9
 z9 := Tryz.sizeOf9
 v9 := Tryz.zeroValue9
 t20 := Tryz.underlying20
 a20 := Tryz.isAgg20
 z20 := Tryz.sizeOf20
 v20 := Tryz.zeroValue20
 t31 := Tryz.underlying77
 a31 := Tryz.isAgg77
 z31 := Tryz.sizeOf77
 v31 := Tryz.zeroValue77
 t37 := Tryz.underlying50
 a37 := Tryz.isAgg50
 z37 := Tryz.sizeOf50
 v37 := Tryz.zeroValue50
 t70 := Tryz.underlying143
 a70 := Tryz.isAgg143
 z70 := Tryz.sizeOf143
 v70 := Tryz.zeroValue143
 t72 := Tryz.underlying145
 a72 := Tryz.isAgg145
 z72 := Tryz.sizeOf145
 v72 := Tryz.zeroValue145
 t75 := Tryz.underlying147
 a75 := Tryz.isAgg147
 z75 := Tryz.sizeOf147
 v75 := Tryz.zeroValue147
 t76 := Tryz.underlying148
 a76 := Tryz.isAgg148
 z76 := Tryz.sizeOf148
 v76 := Tryz.zeroValue148
 t127 := Tryz.underlying184
 a127 := Tryz.isAgg184
 z127 := Tryz.sizeOf184
 v127 := Tryz.zeroValue184
 t164 := Tryz.underlying210
 a164 := Tryz.isAgg210
 z164 := Tryz.sizeOf210
 v164 := Tryz.zeroValue210
theorem z6j : Builder.X72 Tryz.prog rho := ⟨by kernel_rfl, by kernel_rfl⟩
theorem z8l : Builder.Extra Tryz.prog rho := { z6j with t5 := Tryz.underlying5, a5 := Tryz.isAgg5, z5 := Tryz.sizeOf5, v5 := Tryz.zeroValue5, infoByte := by kernel_rfl, cellsByte := by kernel_rfl, sizeByte := by kernel_rfl, neB5 := by decide }
/-! -/
theorem u98 : Tryz.prog.underlying 98 = some (.map 101 34) := by kernel_rfl
theorem u9 : Tryz.prog.underlying 9 = some .string := by kernel_rfl
theorem u101 : Tryz.prog.underlying 101 = some (.struct #[Field.mk "element" 9 0 false "" "pounce/sink" 0, Field.mk "name" 9 1 false "" "pounce/sink" 16]) := by kernel_rfl
theorem z7d : Tryz.prog.keyTypeAt 2 101 = true := by kernel_rfl
theorem z7e : Tryz.prog.tiled 2 101 = true := by kernel_rfl
theorem z7f : WideMaps.KeyLaw Tryz.prog 101 := deep_law (m := 2) (by omega) z7d z7e (by rw [u101])
theorem z73 : Tryz.prog.keyType 101 = true := by kernel_rfl
theorem c101 : Tryz.prog.cellsOf 101 = 2 := by kernel_rfl
theorem c9 : Tryz.prog.cellsOf 9 = 1 := by kernel_rfl
theorem sz : Tryz.prog.types.size = 297 + 1 := by kernel_rfl
theorem z6k (a b : ByteArray) (ha : a.size ≤ maxLen) (hb : b.size ≤ maxLen) (n : Nat) : Tryz.prog.keyLits (n + 2) 101 [.string a, .string b] = some [.string a.data.toList, .string b.data.toList] := by
 have s9 : ∀ s : ByteArray, s.size ≤ maxLen → Tryz.prog.keyLits (n + 1) 9 [.string s] = some [.string s.data.toList] := fun s hs => by
  unfold Program.keyLits
  simp only [u9]
  rw [if_pos hs]
 unfold Program.keyLits
 simp only [u101, c101, c9]
 rw [if_pos ⟨rfl, by kernel_rfl⟩]
 simp only [List.mapM_cons, List.mapM_nil, List.drop_zero, c9, List.take_succ_cons, List.take_zero, List.drop_succ_cons, s9 a ha, s9 b hb, Option.bind_eq_bind, Option.bind_some, Option.pure_def, Option.map_some]
 rfl
theorem z7g (a b : Bs) (ha : a.length ≤ maxB) (hb : b.length ≤ maxB) : ∃ l, keyOf Tryz.prog 101 (.agg #[.string ⟨a.toArray⟩, .string ⟨b.toArray⟩]) = some l := by
 have hm : maxB ≤ maxLen := by decide
 have h1 := z6k ⟨a.toArray⟩ ⟨b.toArray⟩ (by show a.toArray.size ≤ _; simp; omega) (by show b.toArray.size ≤ _; simp; omega) 297
 unfold keyOf
 rw [u101]
 simp only [z73, Bool.true_and]
 have hf : (Value.agg #[.string ⟨a.toArray⟩, .string ⟨b.toArray⟩]).formed Tryz.prog 101 = true := by simp [Value.formed, u101, c101]
 rw [if_pos hf, sz]
 have h2 : Tryz.prog.keyLits (297 + 1 + 1) 101 (Value.agg #[.string ⟨a.toArray⟩, .string ⟨b.toArray⟩]).cells.toList = some [.string a, .string b] := h1
 rw [h2]
 exact ⟨_, rfl⟩
theorem z6l : Key2 Tryz.prog 98 where
 law := fun k e h => by
  rw [u98] at h
  cases h
  exact z7f
 is := fun k e h a b ha hb => by
  rw [u98] at h
  cases h
  exact z7g a b ha hb
 zero := fun k e ik h h2 => by
  rw [u98] at h
  cases h
  have u34 : Tryz.prog.underlying 34 = some (.int .i64) := by kernel_rfl
  rw [u34] at h2
  cases h2
  exact ⟨_, (show Tryz.prog.info? 34 = some Tryz.t34 by kernel_rfl), by kernel_rfl⟩
end Go.En.Pl
