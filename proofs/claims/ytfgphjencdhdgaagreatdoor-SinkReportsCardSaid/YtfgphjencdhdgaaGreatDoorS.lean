/- Text S of this seat: written by a program of ours, or by hand; checked by Lean. -/
import Derived.Test.YtfgphjencdhdgaaGreatDoorG
import Derived.Test.YtfgphjencdhdgaaGreatDoorLay
set_option linter.unusedVariables false
namespace Go.En.Pl
open Go.Proofs
theorem z7z : ∀ t, eqs.contains t = true → EqTy Tryz.prog t :=
 (zy5 ⟨by kernel_rfl, by kernel_rfl, by kernel_rfl, by kernel_rfl⟩ (zy5 ⟨by kernel_rfl, by kernel_rfl, by kernel_rfl, by kernel_rfl⟩ (zy5 ⟨by kernel_rfl, by kernel_rfl, by kernel_rfl, by kernel_rfl⟩ z6b)))
theorem z7b : ∀ t, z7a.contains t = true → Key2 Tryz.prog t :=
 (z4g z6l z5f)
theorem z7c : ∀ f x, exts.lookup f = some x → z2v Tryz.prog f x :=
 (z4h (zy6 Tryz.func219 (by kernel_rfl) (by kernel_rfl) (by kernel_rfl) (by kernel_rfl)) z5g)
theorem z23 (V : Ev) (hV : V.OK) (l : List (FuncId × List zf6)) (il : List (FuncId × List zq9)) (y : Option zf6) (h1 : l.all (fun p => zv9 Tryz.prog p.1) = true) (h1i : il.all (fun p => zv9 Tryz.prog p.1) = true) (h2 : ∀ g s, s ∈ ((l.lookup g).getD []) → zh Tryz.prog (envI V [] [] y) g s) (h3 : ∀ f I, I ∈ ((il.lookup f).getD []) → zru Tryz.prog (env V []) f I) : zs4 Tryz.prog (envI V l il y) where
 types := z7.of_tab rfl (z7y V l il y) z7z z7b
 calls := fun g s hs => (h2 g s hs).env rfl rfl rfl (.inr rfl)
 mixed := by kernel_rfl
 ext := fun f h => z7c f _ h rfl
 it := hV.it
 lp0 := rfl
 its := fun f I hI Y => (h3 f I hI Y).env rfl rfl rfl (.inr rfl)
 enters := fun g h => h.elim (zrv h1 g) (zrv h1i g)

abbrev SD (n : Nat) (s : Sig) (g : Ev → s.In → Option s.Out) : Prop := ∀ V : Ev, V.OK → zh Tryz.prog (env V []) n ⟨s, g V⟩
theorem sd {n : Nat} {s : Sig} {g : Ev → s.In → Option s.Out} (c : Ev → Cl) (a : Ann) (fn : Func) (h : ∀ V t, aFn (envI V (c V) [] none) fn s a t = g V t) (h1 : ∀ V, (c V).all (fun p => zv9 Tryz.prog p.1) = true) (h2 : ∀ V : Ev, V.OK → ∀ g s, s ∈ (((c V).lookup g).getD []) → zh Tryz.prog (envI V [] [] none) g s) (hf : Tryz.prog.funcs[n]? = some fn) : SD n s g := by
 intro V hV
 have e : aFn (envI V (c V) [] none) fn s a = g V := funext (h V)
 rw [← e]
 exact zkb (E2 := (env V [])) (z23 V hV (c V) [] none (h1 V) rfl (h2 V hV) zs6) rfl rfl rfl (.inl rfl) hf
theorem c1 {k : FuncId} {E : Env} {s1 : zf6} {l : Cl} (h1 : zh Tryz.prog E k s1) (h2 : ∀ g s, s ∈ ((l.lookup g).getD []) → zh Tryz.prog E g s) : ∀ g s, s ∈ ((((k, [s1]) :: l).lookup g).getD []) → zh Tryz.prog E g s := xz (vi h1 zcz) h2
theorem c0 {E : Env} : ∀ g s, s ∈ ((([] : Cl).lookup g).getD []) → zh Tryz.prog E g s := z4e rfl
theorem zgv : SD 192 jq zad := sd cN zid Tryz.f192 (fun V t => by kernel_rfl) (fun V => by kernel_rfl) (fun V hV => c0) Tryz.func192
theorem vc : SD 156 qg x6 := sd zlv zn7 Tryz.f156 (fun V t => by kernel_rfl) (fun V => by kernel_rfl) (fun V hV => (c1 (zgv V hV) c0)) Tryz.func156
theorem zr8 (V : Ev) : zh Tryz.prog (env V []) 141 ⟨zdc, zlw V⟩ := z2z z6h (by kernel_rfl)
theorem zov : SD 110 zed zg4 := sd zwd zy8 Tryz.f110 (fun V t => by kernel_rfl) (fun V => by kernel_rfl) (fun V hV => (c1 (zr8 V) c0)) Tryz.func110
theorem zmx : SD 127 zc2 zhd := sd zug zw8 Tryz.f127 (fun V t => by kernel_rfl) (fun V => by kernel_rfl) (fun V hV => (c1 (zov V hV) (c1 (vc V hV) c0))) Tryz.func127
theorem ziu : SD 128 k8 zbx := sd cN zkc Tryz.f128 (fun V t => by kernel_rfl) (fun V => by kernel_rfl) (fun V hV => c0) Tryz.func128
theorem un : SD 55 kj ym := sd cN zw9 Tryz.f55 (fun V t => by kernel_rfl) (fun V => by kernel_rfl) (fun V hV => c0) Tryz.func55
theorem zeu : SD 103 qk zl := sd cN zff Tryz.f103 (fun V t => by kernel_rfl) (fun V => by kernel_rfl) (fun V hV => c0) Tryz.func103
theorem zk2 : SD 48 zby je := sd zs8 zwe Tryz.f48 (fun V t => by kernel_rfl) (fun V => by kernel_rfl) (fun V hV => (c1 (un V hV) (c1 (zeu V hV) c0))) Tryz.func48
theorem zi9 : SD 193 zav zee := sd zrw zuh Tryz.f193 (fun V t => by kernel_rfl) (fun V => by kernel_rfl) (fun V hV => (c1 (vc V hV) c0)) Tryz.func193
theorem zhy : SD 194 kk zba := sd zhe zje Tryz.f194 (fun V t => by kernel_rfl) (fun V => by kernel_rfl) (fun V hV => (c1 (zi9 V hV) c0)) Tryz.func194
theorem zuy : SD 158 zfn zqc := sd zui zxa Tryz.f158 (fun V t => by kernel_rfl) (fun V => by kernel_rfl) (fun V hV => (c1 (zhy V hV) c0)) Tryz.func158
theorem zqu : SD 196 zcf zjf := sd cN zs9 Tryz.f196 (fun V t => by kernel_rfl) (fun V => by kernel_rfl) (fun V hV => c0) Tryz.func196
theorem zqv : SD 195 zcg zjg := sd zqd zta Tryz.f195 (fun V t => by kernel_rfl) (fun V => by kernel_rfl) (fun V hV => (c1 (zqu V hV) c0)) Tryz.func195
theorem zto : SD 161 zef zn8 := sd ztb zwf Tryz.f161 (fun V t => by kernel_rfl) (fun V => by kernel_rfl) (fun V hV => (c1 (zqv V hV) c0)) Tryz.func161
theorem zb7 : SD 160 qz jw := sd zhf zjh Tryz.f160 (fun V t => by kernel_rfl) (fun V => by kernel_rfl) (fun V hV => (c1 (zto V hV) c0)) Tryz.func160
theorem zbt : SD 104 y6 jb := sd zbr zch Tryz.f104 (fun V t => by kernel_rfl) (fun V => by kernel_rfl) (fun V hV => (c1 (zb7 V hV) c0)) Tryz.func104
theorem zbk : SD 159 y4 q8 := sd zbb zbz Tryz.f159 (fun V t => by kernel_rfl) (fun V => by kernel_rfl) (fun V hV => (c1 (zbt V hV) (c1 (zb7 V hV) c0))) Tryz.func159
theorem zpw : SD 197 zbm zhg := sd cN zrx Tryz.f197 (fun V t => by kernel_rfl) (fun V => by kernel_rfl) (fun V hV => c0) Tryz.func197
theorem zqw : SD 195 zci zji := sd zqe ztc Tryz.f195 (fun V t => by kernel_rfl) (fun V => by kernel_rfl) (fun V hV => (c1 (zpw V hV) c0)) Tryz.func195
theorem zr9 : SD 162 zdd zlx := sd zry zuj Tryz.f162 (fun V t => by kernel_rfl) (fun V => by kernel_rfl) (fun V hV => (c1 (zqw V hV) c0)) Tryz.func162
theorem zgw (V : Ev) (hV : V.OK) (Y : (zae).In → Option (zae).Out) : zh Tryz.prog (envI V [] [] (some ⟨zae, Y⟩)) 157 ⟨qm, wz V Y⟩ := by
 rw [← zif V Y]
 exact zkb (E2 := (envI V [] [] (some ⟨zae, Y⟩))) (z23 V hV (zbn V Y) [] (some ⟨zae, Y⟩) (by kernel_rfl) (by kernel_rfl) (xz ((vi ((un V hV).env rfl rfl rfl (.inl rfl)) zcz)) (xz ((vi ((zmx V hV).env rfl rfl rfl (.inl rfl)) zcz)) (xz ((vi ((zuy V hV).env rfl rfl rfl (.inl rfl)) zcz)) (xz ((vi ((zbk V hV).env rfl rfl rfl (.inl rfl)) zcz)) (xz ((vi ((zr9 V hV).env rfl rfl rfl (.inl rfl)) zcz)) c0))))) zs6) rfl rfl rfl (.inr ⟨rfl, _, rfl⟩) Tryz.func157
theorem zsa (V : Ev) (hV : V.OK) : zh Tryz.prog (env V []) 95 ⟨zaw, zeg V⟩ := by
 rw [← zul V]
 exact zkb (E2 := (env V [])) (z23 V hV (zi5 V) (zmw V) none (by kernel_rfl) (by kernel_rfl) (xz ((vi (zk2 V hV) zcz)) (xz ((vi (zmx V hV) zcz)) (xz ((vi (ziu V hV) zcz)) c0))) (z18 (z17 (zgw V hV) z4f) zs6)) rfl rfl rfl (.inl rfl) Tryz.func95
theorem zow : SD 51 zeh vf := sd zwg zy9 Tryz.f51 (fun V t => by kernel_rfl) (fun V => by kernel_rfl) (fun V hV => (c1 (un V hV) c0)) Tryz.func51
theorem zsb : SD 50 zde zaf := sd zrz zum Tryz.f50 (fun V t => by kernel_rfl) (fun V => by kernel_rfl) (fun V hV => (c1 (zow V hV) c0)) Tryz.func50
theorem zbu : SD 104 y7 zc := sd zbs zcj Tryz.f104 (fun V t => by kernel_rfl) (fun V => by kernel_rfl) (fun V hV => (c1 (zsb V hV) c0)) Tryz.func104
theorem zas : SD 49 yu zo := sd zag zbc Tryz.f49 (fun V t => by kernel_rfl) (fun V => by kernel_rfl) (fun V hV => (c1 (zbu V hV) c0)) Tryz.func49
theorem za4 : SD 17 vd xi := sd zun zxc Tryz.f17 (fun V t => by kernel_rfl) (fun V => by kernel_rfl) (fun V hV => (c1 (zk2 V hV) (c1 (zas V hV) c0))) Tryz.func17
theorem gh : SD 108 yh zg := sd ut gx Tryz.f108 (fun V t => by kernel_rfl) (fun V => by kernel_rfl) (fun V hV => (c1 (za4 V hV) c0)) Tryz.func108
theorem vu : SD 60 z6 zd := sd vj uk Tryz.f60 (fun V t => by kernel_rfl) (fun V => by kernel_rfl) (fun V hV => (c1 (gh V hV) c0)) Tryz.func60
theorem zcr : SD 25 vk xa := sd ztd zwh Tryz.f25 (fun V t => by kernel_rfl) (fun V => by kernel_rfl) (fun V hV => (c1 (za4 V hV) (c1 (vu V hV) c0))) Tryz.func25
theorem zno : SD 45 gy j8 := sd zm1 zpk Tryz.f45 (fun V t => by kernel_rfl) (fun V => by kernel_rfl) (fun V hV => (c1 (zcr V hV) (c1 (zsa V hV) c0))) Tryz.func45
theorem wh : SD 129 x3 xj := sd cN zm2 Tryz.f129 (fun V t => by kernel_rfl) (fun V => by kernel_rfl) (fun V hV => c0) Tryz.func129
theorem zsc : SD 130 zdf zgm := sd cN zuo Tryz.f130 (fun V t => by kernel_rfl) (fun V => by kernel_rfl) (fun V hV => c0) Tryz.func130
theorem uo : SD 164 km j9 := sd zup zxd Tryz.f164 (fun V t => by kernel_rfl) (fun V => by kernel_rfl) (fun V hV => (c1 (zi9 V hV) c0)) Tryz.func164
theorem zk3 : SD 163 vw zdh := sd zkd zm3 Tryz.f163 (fun V t => by kernel_rfl) (fun V => by kernel_rfl) (fun V hV => (c1 (uo V hV) c0)) Tryz.func163
theorem zk4 : SD 97 vx zdi := sd zke zm4 Tryz.f97 (fun V t => by kernel_rfl) (fun V => by kernel_rfl) (fun V hV => (c1 (zk3 V hV) c0)) Tryz.func97
theorem qp : SD 99 yv yf := sd cN zkf Tryz.f99 (fun V t => by kernel_rfl) (fun V => by kernel_rfl) (fun V hV => c0) Tryz.func99
theorem zwu : SD 165 zgn zte := sd cN zza Tryz.f165 (fun V t => by kernel_rfl) (fun V => by kernel_rfl) (fun V hV => c0) Tryz.func165
theorem ui : SD 132 qr xd := sd zm5 zpl Tryz.f132 (fun V t => by kernel_rfl) (fun V => by kernel_rfl) (fun V hV => (c1 (zow V hV) (c1 (wh V hV) c0))) Tryz.func132
theorem ztp : SD 198 zei zn9 := sd cN zwi Tryz.f198 (fun V t => by kernel_rfl) (fun V => by kernel_rfl) (fun V hV => c0) Tryz.func198
theorem zdw (V : Ev) : zh Tryz.prog (env V []) 221 ⟨jx, vl V⟩ := z08 z5i rfl
theorem znp : SD 203 gz zfg := sd zm6 zpm Tryz.f203 (fun V t => by kernel_rfl) (fun V => by kernel_rfl) (fun V hV => (c1 (zdw V) c0)) Tryz.func203
theorem zk5 : SD 169 zb0 zfz := sd ztf zwj Tryz.f169 (fun V t => by kernel_rfl) (fun V => by kernel_rfl) (fun V hV => (c1 (znp V hV) c0)) Tryz.func169
theorem ztq : SD 204 zej zoa := sd cN zwk Tryz.f204 (fun V t => by kernel_rfl) (fun V => by kernel_rfl) (fun V hV => c0) Tryz.func204
theorem zbq : SD 106 qn xl := sd cN zig Tryz.f106 (fun V t => by kernel_rfl) (fun V => by kernel_rfl) (fun V hV => c0) Tryz.func106
theorem zgx : SD 222 jr zah := sd zgo zih Tryz.f222 (fun V t => by kernel_rfl) (fun V => by kernel_rfl) (fun V hV => (c1 (zbq V hV) c0)) Tryz.func222
theorem zmi : SD 205 uu zek := sd zly zob Tryz.f205 (fun V t => by kernel_rfl) (fun V => by kernel_rfl) (fun V hV => (c1 (zgx V hV) c0)) Tryz.func205
theorem zqx : SD 215 zck zjj := sd zqf ztg Tryz.f215 (fun V t => by kernel_rfl) (fun V => by kernel_rfl) (fun V hV => (c1 (zdw V) c0)) Tryz.func215
theorem znq : SD 188 ba zfh := sd zm7 zpn Tryz.f188 (fun V t => by kernel_rfl) (fun V => by kernel_rfl) (fun V hV => (c1 (zqx V hV) c0)) Tryz.func188
theorem zgi : SD 261 uv yg := sd cN zr0 Tryz.f261 (fun V t => by kernel_rfl) (fun V => by kernel_rfl) (fun V hV => c0) Tryz.func261
theorem zhz : SD 262 kn zbd := sd zhh zjk Tryz.f262 (fun V t => by kernel_rfl) (fun V => by kernel_rfl) (fun V hV => (c1 (zgi V hV) c0)) Tryz.func262
theorem zk6 : SD 250 vy zdj := sd zkg zm8 Tryz.f250 (fun V t => by kernel_rfl) (fun V => by kernel_rfl) (fun V hV => (c1 (zgi V hV) (c1 (zhz V hV) c0))) Tryz.func250
theorem zmj : SD 239 uw zel := sd zlz zoc Tryz.f239 (fun V t => by kernel_rfl) (fun V => by kernel_rfl) (fun V hV => (c1 (zk6 V hV) c0)) Tryz.func239
theorem wi : SD 263 x4 xm := sd cN zm9 Tryz.f263 (fun V t => by kernel_rfl) (fun V => by kernel_rfl) (fun V hV => c0) Tryz.func263
theorem zgy : SD 251 jt zai := sd zgp zii Tryz.f251 (fun V t => by kernel_rfl) (fun V => by kernel_rfl) (fun V hV => (c1 (wi V hV) c0)) Tryz.func251
theorem zh0 : SD 252 ko zbe := sd zhi zjl Tryz.f252 (fun V t => by kernel_rfl) (fun V => by kernel_rfl) (fun V hV => (c1 (wi V hV) c0)) Tryz.func252
theorem zqy (V : Ev) : zh Tryz.prog (env V []) 218 ⟨zcl, zjm V⟩ := z22 (g := 4) (t := 272) z6i (by kernel_rfl) (by kernel_rfl)
theorem zja : SD 191 zax zem := sd zr1 zuq Tryz.f191 (fun V t => by kernel_rfl) (fun V => by kernel_rfl) (fun V hV => (c1 (zqy V) c0)) Tryz.func191
theorem zmy : SD 264 zc3 zhj := sd cN zxe Tryz.f264 (fun V t => by kernel_rfl) (fun V => by kernel_rfl) (fun V hV => c0) Tryz.func264
theorem ziv : SD 253 k9 zb1 := sd zij zkh Tryz.f253 (fun V t => by kernel_rfl) (fun V => by kernel_rfl) (fun V hV => (c1 (zja V hV) (c1 (wi V hV) (c1 (zmy V hV) c0)))) Tryz.func253
theorem zgc : SD 254 jk bp := sd zf8 zhk Tryz.f254 (fun V t => by kernel_rfl) (fun V => by kernel_rfl) (fun V hV => (c1 (zja V hV) (c1 (wi V hV) (c1 (zmy V hV) c0)))) Tryz.func254
theorem zk7 : SD 240 vz zdk := sd zki zna Tryz.f240 (fun V t => by kernel_rfl) (fun V => by kernel_rfl) (fun V hV => (c1 (zgy V hV) (c1 (zh0 V hV) (c1 (ziv V hV) (c1 (zgc V hV) c0))))) Tryz.func240
theorem znr : SD 223 bc zfi := sd znb zpo Tryz.f223 (fun V t => by kernel_rfl) (fun V => by kernel_rfl) (fun V hV => (c1 (zmj V hV) (c1 (zk7 V hV) c0))) Tryz.func223
theorem zqz : SD 206 zcm zfo := sd zqg zth Tryz.f206 (fun V t => by kernel_rfl) (fun V => by kernel_rfl) (fun V hV => (c1 (znq V hV) (c1 (znr V hV) c0))) Tryz.func206
theorem zpx : SD 224 zbo zhl := sd cN zr2 Tryz.f224 (fun V t => by kernel_rfl) (fun V => by kernel_rfl) (fun V hV => c0) Tryz.func224
theorem ze5 : SD 255 qy vm := sd cN zf0 Tryz.f255 (fun V t => by kernel_rfl) (fun V => by kernel_rfl) (fun V hV => c0) Tryz.func255
theorem zk8 : SD 241 ua zdl := sd zkj znc Tryz.f241 (fun V t => by kernel_rfl) (fun V => by kernel_rfl) (fun V hV => (c1 (ze5 V hV) c0)) Tryz.func241
theorem xy (V : Ev) : zh Tryz.prog (env V []) 142 ⟨zy, zr V⟩ :=
 zwa (fun b w h0 h1 h2 => Any.Builder_copyCheck_fresh lays z6j b w h0 h1 h2) (fun b w h0 => Any.Builder_copyCheck_used lays z6j b w h0) ⟨.inl rfl, .inl rfl⟩ (fun t u h ren => by cases h; rfl)
theorem zd6 : SD 225 qb wo := sd zdz ze2 Tryz.f225 (fun V t => by kernel_rfl) (fun V => by kernel_rfl) (fun V hV => (c1 (xy V) (c1 (zk8 V hV) c0))) Tryz.func225
theorem b5 : SD 112 xo qo := sd cN zf9 Tryz.f112 (fun V t => by kernel_rfl) (fun V => by kernel_rfl) (fun V hV => c0) Tryz.func112
theorem zxn : SD 207 zi6 zr3 := sd zxf z0k Tryz.f207 (fun V t => by kernel_rfl) (fun V => by kernel_rfl) (fun V hV => (c1 (b5 V hV) (c1 (zpx V hV) (c1 (zd6 V hV) c0)))) Tryz.func207
theorem ztr : SD 170 zen zod := sd zti zwl Tryz.f170 (fun V t => by kernel_rfl) (fun V => by kernel_rfl) (fun V hV => (c1 (ztq V hV) (c1 (zmi V hV) (c1 (zqz V hV) (c1 (zxn V hV) c0))))) Tryz.func170
theorem zd7 : SD 171 qd wq := sd zd0 ze3 Tryz.f171 (fun V t => by kernel_rfl) (fun V => by kernel_rfl) (fun V hV => (c1 (xy V) c0)) Tryz.func171
theorem zc8 : SD 111 xu ka := sd zc4 zd1 Tryz.f111 (fun V t => by kernel_rfl) (fun V => by kernel_rfl) (fun V hV => (c1 (xy V) c0)) Tryz.func111
theorem zc9 : SD 111 xw kb := sd zc5 zd2 Tryz.f111 (fun V t => by kernel_rfl) (fun V => by kernel_rfl) (fun V hV => (c1 (xy V) c0)) Tryz.func111
theorem zq0 : SD 135 zcn zjn := sd zqh ztj Tryz.f135 (fun V t => by kernel_rfl) (fun V => by kernel_rfl) (fun V hV => (xz ((vi (zc8 V hV) (vi (zc9 V hV) zcz))) (c1 (b5 V hV) (c1 (vc V hV) (c1 (zk5 V hV) (c1 (ztr V hV) (c1 (zd7 V hV) c0))))))) Tryz.func135
theorem xh : SD 134 yi zm := sd cN zkk Tryz.f134 (fun V t => by kernel_rfl) (fun V => by kernel_rfl) (fun V hV => c0) Tryz.func134
theorem wv : SD 100 xe yw := sd zga zhm Tryz.f100 (fun V t => by kernel_rfl) (fun V => by kernel_rfl) (fun V hV => (c1 (xh V hV) (c1 (zq0 V hV) c0))) Tryz.func100
theorem zjz : SD 166 w5 zcv := sd zjo zl0 Tryz.f166 (fun V t => by kernel_rfl) (fun V => by kernel_rfl) (fun V hV => (c1 (qp V hV) (c1 (wv V hV) (c1 (ui V hV) (c1 (xh V hV) (c1 (uo V hV) (c1 (ztp V hV) c0))))))) Tryz.func166
theorem zj0 : SD 199 w6 zcw := sd zjp zl1 Tryz.f199 (fun V t => by kernel_rfl) (fun V => by kernel_rfl) (fun V hV => (c1 (vc V hV) (c1 (uo V hV) c0))) Tryz.func199
theorem zk9 : SD 97 uc zdm := sd zkl znd Tryz.f97 (fun V t => by kernel_rfl) (fun V => by kernel_rfl) (fun V hV => (c1 (zj0 V hV) c0)) Tryz.func97
theorem zgz : SD 201 ju zaj := sd cN zik Tryz.f201 (fun V t => by kernel_rfl) (fun V => by kernel_rfl) (fun V hV => c0) Tryz.func201
theorem b9 : SD 139 yp qh := sd b8 zay Tryz.f139 (fun V t => by kernel_rfl) (fun V => by kernel_rfl) (fun V hV => (c1 (zgz V hV) c0)) Tryz.func139
theorem gt : SD 200 yj xp := sd gm bq Tryz.f200 (fun V t => by kernel_rfl) (fun V => by kernel_rfl) (fun V hV => (c1 (b9 V hV) c0)) Tryz.func200
theorem ziw : SD 220 wa zb2 := sd zil zkm Tryz.f220 (fun V t => by kernel_rfl) (fun V => by kernel_rfl) (fun V hV => (c1 (uo V hV) c0)) Tryz.func220
theorem zla : SD 97 ud zak := sd zkn zne Tryz.f97 (fun V t => by kernel_rfl) (fun V => by kernel_rfl) (fun V hV => (c1 (uo V hV) c0)) Tryz.func97
theorem zdx : SD 168 jy vn := sd zko znf Tryz.f168 (fun V t => by kernel_rfl) (fun V => by kernel_rfl) (fun V hV => (c1 (wh V hV) (c1 (zk5 V hV) c0))) Tryz.func168
theorem zlb : SD 97 ue zdn := sd zkp zng Tryz.f97 (fun V t => by kernel_rfl) (fun V => by kernel_rfl) (fun V hV => (c1 (ziw V hV) c0)) Tryz.func97
theorem zh1 : SD 202 kp zbf := sd zhn zjq Tryz.f202 (fun V t => by kernel_rfl) (fun V => by kernel_rfl) (fun V hV => (c1 (zlb V hV) (c1 (wv V hV) (c1 (wh V hV) (c1 (ui V hV) (c1 (zdx V hV) c0)))))) Tryz.func202
theorem zix : SD 167 wb zb3 := sd zim zkr Tryz.f167 (fun V t => by kernel_rfl) (fun V => by kernel_rfl) (fun V hV => (c1 (un V hV) (xz ((vi (zk9 V hV) (vi (zla V hV) zcz))) (c1 (ui V hV) (c1 (xh V hV) (c1 (gt V hV) (c1 (zh1 V hV) c0))))))) Tryz.func167
theorem zj1 : SD 131 w7 bd := sd zjr zl2 Tryz.f131 (fun V t => by kernel_rfl) (fun V => by kernel_rfl) (fun V hV => (c1 (un V hV) (c1 (zk4 V hV) (c1 (qp V hV) (c1 (xh V hV) (c1 (uo V hV) (c1 (zwu V hV) (c1 (zjz V hV) (c1 (zix V hV) c0))))))))) Tryz.func131
theorem ziy : SD 133 wc kw := sd zin zks Tryz.f133 (fun V t => by kernel_rfl) (fun V => by kernel_rfl) (fun V hV => (c1 (qp V hV) (c1 (zov V hV) (c1 (xh V hV) (c1 (zdx V hV) c0))))) Tryz.func133
theorem ziz : SD 96 wd zb4 := sd zio zkt Tryz.f96 (fun V t => by kernel_rfl) (fun V => by kernel_rfl) (fun V hV => (c1 (qp V hV) (c1 (wh V hV) (c1 (zsc V hV) (c1 (zj1 V hV) (c1 (ui V hV) (c1 (ziy V hV) (c1 (xh V hV) c0)))))))) Tryz.func96
theorem zpy : SD 98 zbp zho := sd cN zr4 Tryz.f98 (fun V t => by kernel_rfl) (fun V => by kernel_rfl) (fun V hV => c0) Tryz.func98
theorem zlc : SD 97 uf zdo := sd zku znh Tryz.f97 (fun V t => by kernel_rfl) (fun V => by kernel_rfl) (fun V hV => (c1 (zpy V hV) c0)) Tryz.func97
theorem zsd : SD 46 zdg zl3 := sd zr5 zur Tryz.f46 (fun V t => by kernel_rfl) (fun V => by kernel_rfl) (fun V hV => (c1 (ziz V hV) (c1 (zlc V hV) (c1 (qp V hV) (c1 (wv V hV) c0))))) Tryz.func46
theorem zzh : SD 102 zl4 zzb := sd cN z1b Tryz.f102 (fun V t => by kernel_rfl) (fun V => by kernel_rfl) (fun V hV => c0) Tryz.func102
theorem zse : SD 86 zhp zgq := sd cN z1c Tryz.f86 (fun V t => by kernel_rfl) (fun V => by kernel_rfl) (fun V hV => c0) Tryz.func86
theorem zox : SD 87 zeo za8 := sd cN zzc Tryz.f87 (fun V t => by kernel_rfl) (fun V => by kernel_rfl) (fun V hV => c0) Tryz.func87
theorem zb8 : SD 36 ux kc := sd zwm zzd Tryz.f36 (fun V t => by kernel_rfl) (fun V => by kernel_rfl) (fun V hV => (c1 (zse V hV) (c1 (zox V hV) c0))) Tryz.func36
theorem wx : SD 83 yr y8 := sd cN zdp Tryz.f83 (fun V t => by kernel_rfl) (fun V => by kernel_rfl) (fun V hV => c0) Tryz.func83
theorem qw : SD 84 yb zz := sd cN zdq Tryz.f84 (fun V t => by kernel_rfl) (fun V => by kernel_rfl) (fun V hV => c0) Tryz.func84
theorem zb9 : SD 85 q9 jz := sd cN zjs Tryz.f85 (fun V t => by kernel_rfl) (fun V => by kernel_rfl) (fun V hV => c0) Tryz.func85
theorem ve : SD 136 yx xf := sd cN zd3 Tryz.f136 (fun V t => by kernel_rfl) (fun V => by kernel_rfl) (fun V hV => c0) Tryz.func136
theorem zh2 : SD 137 kq zbg := sd cN zjt Tryz.f137 (fun V t => by kernel_rfl) (fun V => by kernel_rfl) (fun V hV => c0) Tryz.func137
theorem zmz : SD 90 zc6 zhq := sd zus zxg Tryz.f90 (fun V t => by kernel_rfl) (fun V => by kernel_rfl) (fun V hV => (c1 (wx V hV) (c1 (qw V hV) (c1 (zb9 V hV) c0)))) Tryz.func90
theorem zxo : SD 226 zi7 zr6 := sd zxh z0l Tryz.f226 (fun V t => by kernel_rfl) (fun V => by kernel_rfl) (fun V hV => (c1 (zb8 V hV) (c1 (qw V hV) (c1 (zse V hV) (c1 (zmz V hV) c0))))) Tryz.func226
theorem zds : SD 228 x7 kx := sd cN zep Tryz.f228 (fun V t => by kernel_rfl) (fun V => by kernel_rfl) (fun V hV => c0) Tryz.func228
theorem zwv : SD 80 zgr zpi := sd zwn zze Tryz.f80 (fun V t => by kernel_rfl) (fun V => by kernel_rfl) (fun V hV => (c1 (zb8 V hV) c0)) Tryz.func80
theorem zxp : SD 89 zi8 zhr := sd cN z0m Tryz.f89 (fun V t => by kernel_rfl) (fun V => by kernel_rfl) (fun V hV => c0) Tryz.func89
theorem zj2 : SD 88 w8 qt := sd cN zl5 Tryz.f88 (fun V t => by kernel_rfl) (fun V => by kernel_rfl) (fun V hV => c0) Tryz.func88
theorem zts : SD 82 zeq zoe := sd cN zwo Tryz.f82 (fun V t => by kernel_rfl) (fun V => by kernel_rfl) (fun V hV => c0) Tryz.func82
theorem zsf (V : Ev) (hV : V.OK) (Y : (yq).In → Option (yq).Out) (self : (zq).In → Option (zq).Out) (h : zh Tryz.prog (envI V [] [] (some ⟨yq, Y⟩)) 121 ⟨zq, self⟩) : zh Tryz.prog (envI V [] [] (some ⟨yq, Y⟩)) 121 ⟨zq, zl6 V Y self⟩ := by
 rw [← zwq V Y self]
 exact zkb (E2 := (envI V [] [] (some ⟨yq, Y⟩))) (z23 V hV (zkv V Y self) [] (some ⟨yq, Y⟩) (by kernel_rfl) (by kernel_rfl) (xz ((vi h zcz)) c0) zs6) rfl rfl rfl (.inr ⟨rfl, _, rfl⟩) Tryz.func121
theorem zjb (V : Ev) (hV : V.OK) (Y : (yq).In → Option (yq).Out) : ∀ m, zh Tryz.prog (envI V [] [] (some ⟨yq, Y⟩)) 121 ⟨zq, zl7 V Y m⟩
 | 0 => zh.none
 | m + 1 => zsf V hV Y _ (zjb V hV Y m)
theorem ztt (V : Ev) (hV : V.OK) (Y : (yq).In → Option (yq).Out) : zh Tryz.prog (envI V [] [] (some ⟨yq, Y⟩)) 121 ⟨zq, zof V Y⟩ := zh.rc hV (zjb V hV Y)
theorem zq1 (V : Ev) (hV : V.OK) (Y : (yq).In → Option (yq).Out) : zh Tryz.prog (envI V [] [] (some ⟨yq, Y⟩)) 120 ⟨br, zfp V Y⟩ := by
 rw [← ztl V Y]
 exact zkb (E2 := (envI V [] [] (some ⟨yq, Y⟩))) (z23 V hV (zhs V Y) [] (some ⟨yq, Y⟩) (by kernel_rfl) (by kernel_rfl) (xz ((vi (ztt V hV Y) zcz)) c0) zs6) rfl rfl rfl (.inr ⟨rfl, _, rfl⟩) Tryz.func120
theorem zjc : SD 122 zaz zer := sd cN zut Tryz.f122 (fun V t => by kernel_rfl) (fun V => by kernel_rfl) (fun V hV => c0) Tryz.func122
theorem zd8 : SD 117 qe wt := sd zd4 ze4 Tryz.f117 (fun V t => by kernel_rfl) (fun V => by kernel_rfl) (fun V hV => (c1 (zjc V hV) c0)) Tryz.func117
theorem zdt : SD 77 x8 ky := sd zdr zes Tryz.f77 (fun V t => by kernel_rfl) (fun V => by kernel_rfl) (fun V hV => (c1 (zd8 V hV) (c1 (zjc V hV) c0))) Tryz.func77
theorem zuz : SD 91 zfq zqi := sd zuu zxi Tryz.f91 (fun V t => by kernel_rfl) (fun V => by kernel_rfl) (fun V hV => (c1 (zdt V hV) c0)) Tryz.func91
theorem zzi (V : Ev) (hV : V.OK) : zh Tryz.prog (env V []) 227 ⟨zht, zvb V⟩ := by
 rw [← z1e V]
 exact zkb (E2 := (env V [])) (z23 V hV (zr7 V) (zwr V) none (by kernel_rfl) (by kernel_rfl) (xz ((vi (zb8 V hV) zcz)) (xz ((vi (zwv V hV) zcz)) (xz ((vi (zts V hV) zcz)) (xz ((vi (zox V hV) zcz)) (xz ((vi (zj2 V hV) zcz)) (xz ((vi (zxp V hV) zcz)) (xz ((vi (zmz V hV) zcz)) (xz ((vi (zuz V hV) zcz)) c0)))))))) (z18 (z17 (zq1 V hV) z4f) zs6)) rfl rfl rfl (.inl rfl) Tryz.func227
theorem ul : SD 208 qa qi := sd ziq zkx Tryz.f208 (fun V t => by kernel_rfl) (fun V => by kernel_rfl) (fun V hV => (c1 (zxo V hV) (c1 (zzi V hV) (c1 (zds V hV) c0)))) Tryz.func208
theorem zh3 : SD 172 ku zbh := sd zhu zju Tryz.f172 (fun V t => by kernel_rfl) (fun V => by kernel_rfl) (fun V hV => (c1 (ul V hV) c0)) Tryz.func172
theorem zf3 : SD 173 ji gn := sd zf1 zgs Tryz.f173 (fun V t => by kernel_rfl) (fun V => by kernel_rfl) (fun V hV => (c1 (ul V hV) c0)) Tryz.func173
theorem zu0 : SD 209 zfr zqj := sd cN zxj Tryz.f209 (fun V t => by kernel_rfl) (fun V => by kernel_rfl) (fun V hV => c0) Tryz.func209
theorem vv : SD 138 x1 xb := sd cN zjv Tryz.f138 (fun V t => by kernel_rfl) (fun V => by kernel_rfl) (fun V hV => c0) Tryz.func138
theorem zg0 : SD 174 jv zal := sd zgt zir Tryz.f174 (fun V t => by kernel_rfl) (fun V => by kernel_rfl) (fun V hV => (c1 (ve V hV) (c1 (vv V hV) (c1 (ul V hV) (c1 (zu0 V hV) c0))))) Tryz.func174
theorem zda : SD 210 xx kd := sd cN zd5 Tryz.f210 (fun V t => by kernel_rfl) (fun V => by kernel_rfl) (fun V hV => c0) Tryz.func210
theorem zi0 : SD 175 we zb5 := sd zis zky Tryz.f175 (fun V t => by kernel_rfl) (fun V => by kernel_rfl) (fun V hV => (c1 (vv V hV) (c1 (zda V hV) c0))) Tryz.func175
theorem zu1 : SD 101 zfs zqk := sd zuv zxk Tryz.f101 (fun V t => by kernel_rfl) (fun V => by kernel_rfl) (fun V hV => (c1 (zb8 V hV) (c1 (wx V hV) (c1 (qw V hV) (c1 (zb9 V hV) (c1 (ve V hV) (c1 (zh2 V hV) (c1 (vv V hV) (c1 (zh3 V hV) (c1 (zf3 V hV) (c1 (zg0 V hV) (c1 (zi0 V hV) c0)))))))))))) Tryz.func101
theorem zu2 : SD 47 zft zql := sd zuw zxl Tryz.f47 (fun V t => by kernel_rfl) (fun V => by kernel_rfl) (fun V hV => (c1 (zu1 V hV) (c1 (zzh V hV) c0))) Tryz.func47
theorem zoy : SD 54 zet zco := sd zws zzf Tryz.f54 (fun V t => by kernel_rfl) (fun V => by kernel_rfl) (fun V hV => (c1 (zb8 V hV) c0)) Tryz.func54
theorem zmk : SD 56 uy jl := sd zl8 zog Tryz.f56 (fun V t => by kernel_rfl) (fun V => by kernel_rfl) (fun V hV => (c1 (zbq V hV) c0)) Tryz.func56
theorem zq2 : SD 57 zcp zc7 := sd cN ztn Tryz.f57 (fun V t => by kernel_rfl) (fun V => by kernel_rfl) (fun V hV => c0) Tryz.func57
theorem zh4 : SD 19 zcq ke := sd zwt zzg Tryz.f19 (fun V t => by kernel_rfl) (fun V => by kernel_rfl) (fun V hV => (c1 (zoy V hV) (c1 (un V hV) (c1 (zmk V hV) (c1 (zq2 V hV) c0))))) Tryz.func19
theorem zgd : SD 21 za9 kf := sd zux zxm Tryz.f21 (fun V t => by kernel_rfl) (fun V => by kernel_rfl) (fun V hV => (c1 (zoy V hV) c0)) Tryz.func21
theorem jo : SD 16 xg zp := sd zl9 zoh Tryz.f16 (fun V t => by kernel_rfl) (fun V => by kernel_rfl) (fun V hV => (c1 (zh4 V hV) (c1 (zgd V hV) (c1 (zno V hV) (c1 (zsd V hV) (c1 (zu2 V hV) c0)))))) Tryz.func16
theorem zoz : SD 42 zam xq := sd cN zqm Tryz.f42 (fun V t => by kernel_rfl) (fun V => by kernel_rfl) (fun V hV => c0) Tryz.func42
theorem zf4 : SD 13 vo zx := sd zoi zqn Tryz.f13 (fun V t => by kernel_rfl) (fun V => by kernel_rfl) (fun V hV => (c1 (zoz V hV) c0)) Tryz.func13
theorem zj3 : SD 43 w9 yo := sd cN zma Tryz.f43 (fun V t => by kernel_rfl) (fun V => by kernel_rfl) (fun V hV => c0) Tryz.func43
theorem zf5 : SD 14 vp ja := sd zoj zqo Tryz.f14 (fun V t => by kernel_rfl) (fun V => by kernel_rfl) (fun V hV => (c1 (zj3 V hV) c0)) Tryz.func14
theorem zj4 : SD 44 va ww := sd cN zmb Tryz.f44 (fun V t => by kernel_rfl) (fun V => by kernel_rfl) (fun V hV => c0) Tryz.func44
theorem zo0 : SD 15 zan za0 := sd zok zqp Tryz.f15 (fun V t => by kernel_rfl) (fun V => by kernel_rfl) (fun V hV => (c1 (zj4 V hV) c0)) Tryz.func15
theorem zat : SD 53 jf y5 := sd cN zol Tryz.f53 (fun V t => by kernel_rfl) (fun V => by kernel_rfl) (fun V hV => c0) Tryz.func53
theorem zo1 : SD 105 zao wu := sd cN zqq Tryz.f105 (fun V t => by kernel_rfl) (fun V => by kernel_rfl) (fun V hV => c0) Tryz.func105
theorem zns : SD 52 be kg := sd zni zpp Tryz.f52 (fun V t => by kernel_rfl) (fun V => by kernel_rfl) (fun V hV => (c1 (zat V hV) (c1 (zo1 V hV) c0))) Tryz.func52
theorem zev : SD 18 kz x9 := sd zmc zom Tryz.f18 (fun V t => by kernel_rfl) (fun V => by kernel_rfl) (fun V hV => (c1 (zns V hV) (c1 (zat V hV) c0))) Tryz.func18
theorem zo2 : SD 123 zap za1 := sd cN zqr Tryz.f123 (fun V t => by kernel_rfl) (fun V => by kernel_rfl) (fun V hV => c0) Tryz.func123
theorem zew : SD 153 k7 jm := sd cN zon Tryz.f153 (fun V t => by kernel_rfl) (fun V => by kernel_rfl) (fun V hV => c0) Tryz.func153
theorem znt : SD 124 bf bt := sd znj zpq Tryz.f124 (fun V t => by kernel_rfl) (fun V => by kernel_rfl) (fun V hV => (c1 (zew V hV) c0)) Tryz.func124
theorem zml : SD 154 uz wg := sd cN zoo Tryz.f154 (fun V t => by kernel_rfl) (fun V => by kernel_rfl) (fun V hV => c0) Tryz.func154
theorem zo3 : SD 155 zaq za2 := sd cN zqs Tryz.f155 (fun V t => by kernel_rfl) (fun V => by kernel_rfl) (fun V hV => c0) Tryz.func155
theorem zld : SD 125 ug vq := sd zkz znk Tryz.f125 (fun V t => by kernel_rfl) (fun V => by kernel_rfl) (fun V hV => (c1 (zew V hV) (c1 (zml V hV) (c1 (zo3 V hV) c0)))) Tryz.func125
theorem znu : SD 126 bg bu := sd cN zpr Tryz.f126 (fun V t => by kernel_rfl) (fun V => by kernel_rfl) (fun V hV => c0) Tryz.func126
theorem zmm : SD 93 u5 u6 := sd zmd zop Tryz.f93 (fun V t => by kernel_rfl) (fun V => by kernel_rfl) (fun V hV => (c1 (zo2 V hV) (c1 (znt V hV) (c1 (zld V hV) (c1 (znu V hV) c0))))) Tryz.func93
theorem zmn : SD 94 u7 ga := sd zme zoq Tryz.f94 (fun V t => by kernel_rfl) (fun V => by kernel_rfl) (fun V hV => (c1 (zmm V hV) c0)) Tryz.func94
theorem zdb : SD 58 jn qu := sd zjw zmf Tryz.f58 (fun V t => by kernel_rfl) (fun V => by kernel_rfl) (fun V hV => (c1 (zmn V hV) c0)) Tryz.func58
theorem znv : SD 20 bh bv := sd znl zps Tryz.f20 (fun V t => by kernel_rfl) (fun V => by kernel_rfl) (fun V hV => (c1 (zat V hV) (c1 (zdb V hV) c0))) Tryz.func20
theorem zmo : SD 22 gd ge := sd zmg zor Tryz.f22 (fun V t => by kernel_rfl) (fun V => by kernel_rfl) (fun V hV => (c1 (zdb V hV) c0)) Tryz.func22
theorem zmp : SD 107 gf gg := sd cN zos Tryz.f107 (fun V t => by kernel_rfl) (fun V => by kernel_rfl) (fun V hV => c0) Tryz.func107
theorem znw : SD 31 bj bw := sd cN zpt Tryz.f31 (fun V t => by kernel_rfl) (fun V => by kernel_rfl) (fun V hV => c0) Tryz.func31
theorem zo4 : SD 59 zar za3 := sd zot zqt Tryz.f59 (fun V t => by kernel_rfl) (fun V => by kernel_rfl) (fun V hV => (c1 (znw V hV) (c1 (zmp V hV) c0))) Tryz.func59
theorem znx : SD 23 bk bx := sd znm zpu Tryz.f23 (fun V t => by kernel_rfl) (fun V => by kernel_rfl) (fun V hV => (c1 (zo4 V hV) c0)) Tryz.func23
theorem soundpouncelaw20_SinkTakes_ : SD 3 gp zbi := sd zhv zjx Tryz.f3 (fun V t => by kernel_rfl) (fun V => by kernel_rfl) (fun V hV => (c1 (zf4 V hV) (c1 (zf5 V hV) (c1 (zo0 V hV) (c1 (jo V hV) (c1 (za4 V hV) (c1 (zev V hV) (c1 (zh4 V hV) (c1 (znv V hV) (c1 (zgd V hV) (c1 (zmo V hV) (c1 (znx V hV) c0)))))))))))) Tryz.func3
theorem zau : SD 24 jg yk := sd zmh zou Tryz.f24 (fun V t => by kernel_rfl) (fun V => by kernel_rfl) (fun V hV => (c1 (zf4 V hV) c0)) Tryz.func24
theorem zle : SD 26 uh vr := sd zk0 znn Tryz.f26 (fun V t => by kernel_rfl) (fun V => by kernel_rfl) (fun V hV => (c1 (zev V hV) c0)) Tryz.func26
theorem zny : SD 27 bl vg := sd cN zpv Tryz.f27 (fun V t => by kernel_rfl) (fun V => by kernel_rfl) (fun V hV => c0) Tryz.func27
theorem soundpouncelaw20_SinkComplies_ : SD 4 vb gq := sd zf2 zgu Tryz.f4 (fun V t => by kernel_rfl) (fun V => by kernel_rfl) (fun V hV => (c1 (jo V hV) (c1 (zau V hV) (c1 (zcr V hV) (c1 (zle V hV) (c1 (zny V hV) c0)))))) Tryz.func4
theorem soundpouncelaw20_SinkFree_ : SD 5 bz zb6 := sd zit zk1 Tryz.f5 (fun V t => by kernel_rfl) (fun V => by kernel_rfl) (fun V hV => (c1 (jo V hV) (c1 (za4 V hV) (c1 (zau V hV) (c1 (zcr V hV) c0))))) Tryz.func5
theorem soundpouncelaw20_SinkNames_ : SD 6 gr zbj := sd zhw zjy Tryz.f6 (fun V t => by kernel_rfl) (fun V => by kernel_rfl) (fun V hV => (c1 (zf5 V hV) (c1 (jo V hV) (c1 (zh4 V hV) (c1 (zgd V hV) c0))))) Tryz.func6
theorem soundpouncelaw20_SinkReports_ : SD 7 vt b4 := sd zgb zhx Tryz.f7 (fun V t => by kernel_rfl) (fun V => by kernel_rfl) (fun V hV => (c1 (jo V hV) (c1 (za4 V hV) (c1 (zau V hV) (c1 (zcr V hV) c0))))) Tryz.func7
end Go.En.Pl
