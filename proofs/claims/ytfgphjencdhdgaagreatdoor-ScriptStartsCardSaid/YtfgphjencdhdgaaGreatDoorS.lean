/- Text S of this seat: written by a program of ours, or by hand; checked by Lean. -/
import Derived.Test.YtfgphjencdhdgaaGreatDoorG
import Derived.Test.YtfgphjencdhdgaaGreatDoorLay
set_option linter.unusedVariables false
namespace Go.En.Pl
open Go.Proofs
theorem ydg : ∀ t, eqs.contains t = true → EqTy Tryz.prog t :=
 (z79 ⟨by kernel_rfl, by kernel_rfl, by kernel_rfl, by kernel_rfl⟩ (z79 ⟨by kernel_rfl, by kernel_rfl, by kernel_rfl, by kernel_rfl⟩ yb3))
theorem ycx : ∀ f x, exts.lookup f = some x → z8q Tryz.prog f x :=
 (z96 (z4k Tryz.func219 (by kernel_rfl) (by kernel_rfl) (by kernel_rfl) (by kernel_rfl)) ya9)
theorem z6a (V : Ev) (hV : V.OK) (l : List (FuncId × List zis)) (il : List (FuncId × List zvc)) (y : Option zis) (h1 : l.all (fun p => z0x Tryz.prog p.1) = true) (h1i : il.all (fun p => z0x Tryz.prog p.1) = true) (h2 : ∀ g s, s ∈ ((l.lookup g).getD []) → zn Tryz.prog (envI V [] [] y) g s) (h3 : ∀ f I, I ∈ ((il.lookup f).getD []) → zvx Tryz.prog (env V []) f I) : zxf Tryz.prog (envI V l il y) where
 types := y7.of_tab rfl (ydf V l il y) ydg
 calls := fun g s hs => (h2 g s hs).env rfl rfl rfl (.inr rfl)
 mixed := by kernel_rfl
 ext := fun f h => ycx f _ h rfl
 it := hV.it
 lp0 := rfl
 its := fun f I hI Y => (h3 f I hI Y).env rfl rfl rfl (.inr rfl)
 enters := fun g h => h.elim (zvy h1 g) (zvy h1i g)

abbrev SD (n : Nat) (s : Sig) (g : Ev → s.In → Option s.Out) : Prop := ∀ V : Ev, V.OK → zn Tryz.prog (env V []) n ⟨s, g V⟩
theorem sd {n : Nat} {s : Sig} {g : Ev → s.In → Option s.Out} (c : Ev → Cl) (a : Ann) (fn : Func) (h : ∀ V t, aFn (envI V (c V) [] none) fn s a t = g V t) (h1 : ∀ V, (c V).all (fun p => z0x Tryz.prog p.1) = true) (h2 : ∀ V : Ev, V.OK → ∀ g s, s ∈ (((c V).lookup g).getD []) → zn Tryz.prog (envI V [] [] none) g s) (hf : Tryz.prog.funcs[n]? = some fn) : SD n s g := by
 intro V hV
 have e : aFn (envI V (c V) [] none) fn s a = g V := funext (h V)
 rw [← e]
 exact zih (E2 := (env V [])) (z6a V hV (c V) [] none (h1 V) rfl (h2 V hV) zrk) rfl rfl rfl (.inl rfl) hf
theorem c1 {k : FuncId} {E : Env} {s1 : zis} {l : Cl} (h1 : zn Tryz.prog E k s1) (h2 : ∀ g s, s ∈ ((l.lookup g).getD []) → zn Tryz.prog E g s) : ∀ g s, s ∈ ((((k, [s1]) :: l).lookup g).getD []) → zn Tryz.prog E g s := km (zaw h1 zii) h2
theorem c0 {E : Env} : ∀ g s, s ∈ ((([] : Cl).lookup g).getD []) → zn Tryz.prog E g s := z94 rfl
theorem ul : SD 129 jc qm := sd cN zqf Tryz.f129 (fun V t => by kernel_rfl) (fun V => by kernel_rfl) (fun V hV => c0) Tryz.func129
theorem zwi : SD 130 zey zja := sd cN zyu Tryz.f130 (fun V t => by kernel_rfl) (fun V => by kernel_rfl) (fun V hV => c0) Tryz.func130
theorem zjn : SD 192 wx zb8 := sd cN zk7 Tryz.f192 (fun V t => by kernel_rfl) (fun V => by kernel_rfl) (fun V hV => c0) Tryz.func192
theorem zcr : SD 156 ko kx := sd zoo zrm Tryz.f156 (fun V t => by kernel_rfl) (fun V => by kernel_rfl) (fun V hV => (c1 (zjn V hV) c0)) Tryz.func156
theorem zwj : SD 193 zez zop := sd zv0 zyv Tryz.f193 (fun V t => by kernel_rfl) (fun V => by kernel_rfl) (fun V hV => (c1 (zcr V hV) c0)) Tryz.func193
theorem b6 : SD 164 vj va := sd zyw z2a Tryz.f164 (fun V t => by kernel_rfl) (fun V => by kernel_rfl) (fun V hV => (c1 (zwj V hV) c0)) Tryz.func164
theorem znx : SD 163 bh ze5 := sd zm8 zqg Tryz.f163 (fun V t => by kernel_rfl) (fun V => by kernel_rfl) (fun V hV => (c1 (b6 V hV) c0)) Tryz.func163
theorem zny : SD 97 bj ze6 := sd zm9 zqh Tryz.f97 (fun V t => by kernel_rfl) (fun V => by kernel_rfl) (fun V hV => (c1 (znx V hV) c0)) Tryz.func97
theorem zc0 : SD 55 gp xt := sd cN z2b Tryz.f55 (fun V t => by kernel_rfl) (fun V => by kernel_rfl) (fun V hV => c0) Tryz.func55
theorem kb : SD 99 xu xb := sd cN zna Tryz.f99 (fun V t => by kernel_rfl) (fun V => by kernel_rfl) (fun V hV => c0) Tryz.func99
theorem z1q : SD 165 zjb zxg := sd cN z4m Tryz.f165 (fun V t => by kernel_rfl) (fun V => by kernel_rfl) (fun V hV => c0) Tryz.func165
theorem z1r : SD 51 zjc zxh := sd z01 z4n Tryz.f51 (fun V t => by kernel_rfl) (fun V => by kernel_rfl) (fun V hV => (c1 (zc0 V hV) c0)) Tryz.func51
theorem bt : SD 132 kd qe := sd zqi zs8 Tryz.f132 (fun V t => by kernel_rfl) (fun V => by kernel_rfl) (fun V hV => (c1 (z1r V hV) (c1 (ul V hV) c0))) Tryz.func132
theorem zxy : SD 198 zf9 zrn := sd cN z02 Tryz.f198 (fun V t => by kernel_rfl) (fun V => by kernel_rfl) (fun V hV => c0) Tryz.func198
theorem zfo (V : Ev) : zn Tryz.prog (env V []) 221 ⟨w8, gx V⟩ := z61 yba rfl
theorem zq3 : SD 203 za5 zhr := sd zqj zs9 Tryz.f203 (fun V t => by kernel_rfl) (fun V => by kernel_rfl) (fun V hV => (c1 (zfo V) c0)) Tryz.func203
theorem znz : SD 169 zds zij := sd zxi z03 Tryz.f169 (fun V t => by kernel_rfl) (fun V => by kernel_rfl) (fun V hV => (c1 (zq3 V hV) c0)) Tryz.func169
theorem zxz : SD 204 zga zro := sd cN z04 Tryz.f204 (fun V t => by kernel_rfl) (fun V => by kernel_rfl) (fun V hV => c0) Tryz.func204
theorem zdk : SD 106 ka ky := sd cN zk8 Tryz.f106 (fun V t => by kernel_rfl) (fun V => by kernel_rfl) (fun V hV => c0) Tryz.func106
theorem zjo : SD 222 wy zb9 := sd zjd zk9 Tryz.f222 (fun V t => by kernel_rfl) (fun V => by kernel_rfl) (fun V hV => (c1 (zdk V hV) c0)) Tryz.func222
theorem zpi : SD 205 b9 zgb := sd zoq zrp Tryz.f205 (fun V t => by kernel_rfl) (fun V => by kernel_rfl) (fun V hV => (c1 (zjo V hV) c0)) Tryz.func205
theorem zkt : SD 215 zbl zep := sd zue zxj Tryz.f215 (fun V t => by kernel_rfl) (fun V => by kernel_rfl) (fun V hV => (c1 (zfo V) c0)) Tryz.func215
theorem zhf : SD 188 uw zbm := sd zqk zta Tryz.f188 (fun V t => by kernel_rfl) (fun V => by kernel_rfl) (fun V hV => (c1 (zkt V hV) c0)) Tryz.func188
theorem zi7 : SD 261 zaa xc := sd cN zv1 Tryz.f261 (fun V t => by kernel_rfl) (fun V => by kernel_rfl) (fun V hV => c0) Tryz.func261
theorem zku : SD 262 vk zc7 := sd zj9 zmd Tryz.f262 (fun V t => by kernel_rfl) (fun V => by kernel_rfl) (fun V hV => (c1 (zi7 V hV) c0)) Tryz.func262
theorem zn0 : SD 250 bk ze7 := sd znb zql Tryz.f250 (fun V t => by kernel_rfl) (fun V => by kernel_rfl) (fun V hV => (c1 (zi7 V hV) (c1 (zku V hV) c0))) Tryz.func250
theorem zpj : SD 239 zab zgc := sd zor zrq Tryz.f239 (fun V t => by kernel_rfl) (fun V => by kernel_rfl) (fun V hV => (c1 (zn0 V hV) c0)) Tryz.func239
theorem um : SD 263 jd qn := sd cN zqm Tryz.f263 (fun V t => by kernel_rfl) (fun V => by kernel_rfl) (fun V hV => c0) Tryz.func263
theorem zjp : SD 251 wz zca := sd zje zla Tryz.f251 (fun V t => by kernel_rfl) (fun V => by kernel_rfl) (fun V hV => (c1 (um V hV) c0)) Tryz.func251
theorem zkv : SD 252 vl zc8 := sd zka zme Tryz.f252 (fun V t => by kernel_rfl) (fun V => by kernel_rfl) (fun V hV => (c1 (um V hV) c0)) Tryz.func252
theorem zu2 (V : Ev) : zn Tryz.prog (env V []) 218 ⟨zea, zmf V⟩ := z8v (g := 4) (t := 272) yca (by kernel_rfl) (by kernel_rfl)
theorem zgo : SD 191 b5 zcb := sd zv2 zyx Tryz.f191 (fun V t => by kernel_rfl) (fun V => by kernel_rfl) (fun V hV => (c1 (zu2 V) c0)) Tryz.func191
theorem zqb : SD 264 zeq zkb := sd cN z2c Tryz.f264 (fun V t => by kernel_rfl) (fun V => by kernel_rfl) (fun V hV => c0) Tryz.func264
theorem zlm : SD 253 ue zdt := sd zlb znc Tryz.f253 (fun V t => by kernel_rfl) (fun V => by kernel_rfl) (fun V hV => (c1 (zgo V hV) (c1 (um V hV) (c1 (zqb V hV) c0)))) Tryz.func253
theorem zi1 : SD 254 kz zbn := sd ziu zkc Tryz.f254 (fun V t => by kernel_rfl) (fun V => by kernel_rfl) (fun V hV => (c1 (zgo V hV) (c1 (um V hV) (c1 (zqb V hV) c0)))) Tryz.func254
theorem zn1 : SD 240 bl ze8 := sd znd zqn Tryz.f240 (fun V t => by kernel_rfl) (fun V => by kernel_rfl) (fun V hV => (c1 (zjp V hV) (c1 (zkv V hV) (c1 (zlm V hV) (c1 (zi1 V hV) c0))))) Tryz.func240
theorem zq4 : SD 223 za6 zhs := sd zqo ztb Tryz.f223 (fun V t => by kernel_rfl) (fun V => by kernel_rfl) (fun V hV => (c1 (zpj V hV) (c1 (zn1 V hV) c0))) Tryz.func223
theorem zu3 : SD 206 zeb zhz := sd zuf zxk Tryz.f206 (fun V t => by kernel_rfl) (fun V => by kernel_rfl) (fun V hV => (c1 (zhf V hV) (c1 (zq4 V hV) c0))) Tryz.func206
theorem zts : SD 224 zde zkd := sd cN zv3 Tryz.f224 (fun V t => by kernel_rfl) (fun V => by kernel_rfl) (fun V hV => c0) Tryz.func224
theorem zhc : SD 255 kh gy := sd cN zik Tryz.f255 (fun V t => by kernel_rfl) (fun V => by kernel_rfl) (fun V hV => c0) Tryz.func255
theorem zn2 : SD 241 bm ze9 := sd zne zqp Tryz.f241 (fun V t => by kernel_rfl) (fun V => by kernel_rfl) (fun V hV => (c1 (zhc V hV) c0)) Tryz.func241
theorem q8 (V : Ev) : zn Tryz.prog (env V []) 142 ⟨yz, zw V⟩ :=
 z0y (fun b w h0 h1 h2 => Any.Builder_copyCheck_fresh lays ycc b w h0 h1 h2) (fun b w h0 => Any.Builder_copyCheck_used lays ycc b w h0) ⟨.inl rfl, .inl rfl⟩ (fun t u h ren => by cases h; rfl)
theorem zf0 : SD 225 jl ur := sd zfs zg6 Tryz.f225 (fun V t => by kernel_rfl) (fun V => by kernel_rfl) (fun V hV => (c1 (q8 V) (c1 (zn2 V hV) c0))) Tryz.func225
theorem vh : SD 112 x1 yg := sd cN ziv Tryz.f112 (fun V t => by kernel_rfl) (fun V => by kernel_rfl) (fun V hV => c0) Tryz.func112
theorem z2y : SD 207 zlw zv4 := sd z2d z50 Tryz.f207 (fun V t => by kernel_rfl) (fun V => by kernel_rfl) (fun V hV => (c1 (vh V hV) (c1 (zts V hV) (c1 (zf0 V hV) c0)))) Tryz.func207
theorem zx0 : SD 170 zgd zrr := sd zxl z05 Tryz.f170 (fun V t => by kernel_rfl) (fun V => by kernel_rfl) (fun V hV => (c1 (zxz V hV) (c1 (zpi V hV) (c1 (zu3 V hV) (c1 (z2y V hV) c0))))) Tryz.func170
theorem zf1 : SD 171 jm ut := sd zft zg7 Tryz.f171 (fun V t => by kernel_rfl) (fun V => by kernel_rfl) (fun V hV => (c1 (q8 V) c0)) Tryz.func171
theorem zev : SD 111 qy vb := sd zer zfu Tryz.f111 (fun V t => by kernel_rfl) (fun V => by kernel_rfl) (fun V hV => (c1 (q8 V) c0)) Tryz.func111
theorem gr : SD 111 xx yd := sd zes zfv Tryz.f111 (fun V t => by kernel_rfl) (fun V => by kernel_rfl) (fun V hV => (c1 (q8 V) c0)) Tryz.func111
theorem zu4 : SD 135 zec zmg := sd zug zxm Tryz.f135 (fun V t => by kernel_rfl) (fun V => by kernel_rfl) (fun V hV => (km ((zaw (zev V hV) (zaw (gr V hV) zii))) (c1 (vh V hV) (c1 (zcr V hV) (c1 (znz V hV) (c1 (zx0 V hV) (c1 (zf1 V hV) c0))))))) Tryz.func135
theorem ql : SD 134 xe z7 := sd cN znf Tryz.f134 (fun V t => by kernel_rfl) (fun V => by kernel_rfl) (fun V hV => c0) Tryz.func134
theorem uv : SD 100 qf xw := sd ziw zke Tryz.f100 (fun V t => by kernel_rfl) (fun V => by kernel_rfl) (fun V hV => (c1 (ql V hV) (c1 (zu4 V hV) c0))) Tryz.func100
theorem zmv : SD 166 u6 zej := sd zmh zos Tryz.f166 (fun V t => by kernel_rfl) (fun V => by kernel_rfl) (fun V hV => (c1 (kb V hV) (c1 (uv V hV) (c1 (bt V hV) (c1 (ql V hV) (c1 (b6 V hV) (c1 (zxy V hV) c0))))))) Tryz.func166
theorem zmw : SD 199 u7 zek := sd zmi zot Tryz.f199 (fun V t => by kernel_rfl) (fun V => by kernel_rfl) (fun V hV => (c1 (zcr V hV) (c1 (b6 V hV) c0))) Tryz.func199
theorem zn3 : SD 97 bn zfa := sd zng zqq Tryz.f97 (fun V t => by kernel_rfl) (fun V => by kernel_rfl) (fun V hV => (c1 (zmw V hV) c0)) Tryz.func97
theorem zjq : SD 201 w5 zcc := sd cN zlc Tryz.f201 (fun V t => by kernel_rfl) (fun V => by kernel_rfl) (fun V hV => c0) Tryz.func201
theorem zb2 : SD 139 xn jq := sd zb0 zcv Tryz.f139 (fun V t => by kernel_rfl) (fun V => by kernel_rfl) (fun V hV => (c1 (zjq V hV) c0)) Tryz.func139
theorem za1 : SD 200 xf qt := sd zax zbo Tryz.f200 (fun V t => by kernel_rfl) (fun V => by kernel_rfl) (fun V hV => (c1 (zb2 V hV) c0)) Tryz.func200
theorem zln : SD 220 uf zdu := sd zld znh Tryz.f220 (fun V t => by kernel_rfl) (fun V => by kernel_rfl) (fun V hV => (c1 (b6 V hV) c0)) Tryz.func220
theorem zn4 : SD 97 bo zcd := sd zni zqr Tryz.f97 (fun V t => by kernel_rfl) (fun V => by kernel_rfl) (fun V hV => (c1 (b6 V hV) c0)) Tryz.func97
theorem zfp : SD 168 w9 gz := sd znj zqs Tryz.f168 (fun V t => by kernel_rfl) (fun V => by kernel_rfl) (fun V hV => (c1 (ul V hV) (c1 (znz V hV) c0))) Tryz.func168
theorem zn5 : SD 97 bp zfb := sd znk zqt Tryz.f97 (fun V t => by kernel_rfl) (fun V => by kernel_rfl) (fun V hV => (c1 (zln V hV) c0)) Tryz.func97
theorem zkw : SD 202 vm zc9 := sd zkf zmj Tryz.f202 (fun V t => by kernel_rfl) (fun V => by kernel_rfl) (fun V hV => (c1 (zn5 V hV) (c1 (uv V hV) (c1 (ul V hV) (c1 (bt V hV) (c1 (zfp V hV) c0)))))) Tryz.func202
theorem zlo : SD 167 ug zdv := sd zle znm Tryz.f167 (fun V t => by kernel_rfl) (fun V => by kernel_rfl) (fun V hV => (c1 (zc0 V hV) (km ((zaw (zn3 V hV) (zaw (zn4 V hV) zii))) (c1 (bt V hV) (c1 (ql V hV) (c1 (za1 V hV) (c1 (zkw V hV) c0))))))) Tryz.func167
theorem zmx : SD 131 u9 za7 := sd zmk zou Tryz.f131 (fun V t => by kernel_rfl) (fun V => by kernel_rfl) (fun V hV => (c1 (zc0 V hV) (c1 (zny V hV) (c1 (kb V hV) (c1 (ql V hV) (c1 (b6 V hV) (c1 (z1q V hV) (c1 (zmv V hV) (c1 (zlo V hV) c0))))))))) Tryz.func131
theorem zwk (V : Ev) : zn Tryz.prog (env V []) 141 ⟨ze0, zov V⟩ := z8u yb9 (by kernel_rfl)
theorem zkx : SD 110 zed zbp := sd z06 z4o Tryz.f110 (fun V t => by kernel_rfl) (fun V => by kernel_rfl) (fun V hV => (c1 (zwk V) c0)) Tryz.func110
theorem zlp : SD 133 uh vq := sd zlf znn Tryz.f133 (fun V t => by kernel_rfl) (fun V => by kernel_rfl) (fun V hV => (c1 (kb V hV) (c1 (zkx V hV) (c1 (ql V hV) (c1 (zfp V hV) c0))))) Tryz.func133
theorem zlq : SD 96 ui zdw := sd zlg zno Tryz.f96 (fun V t => by kernel_rfl) (fun V => by kernel_rfl) (fun V hV => (c1 (kb V hV) (c1 (ul V hV) (c1 (zwi V hV) (c1 (zmx V hV) (c1 (bt V hV) (c1 (zlp V hV) (c1 (ql V hV) c0)))))))) Tryz.func96
theorem ztt : SD 98 zdf zkg := sd cN zv5 Tryz.f98 (fun V t => by kernel_rfl) (fun V => by kernel_rfl) (fun V hV => c0) Tryz.func98
theorem zn6 : SD 97 bq zfc := sd znp zqu Tryz.f97 (fun V t => by kernel_rfl) (fun V => by kernel_rfl) (fun V hV => (c1 (ztt V hV) c0)) Tryz.func97
theorem zwl : SD 46 ze1 zow := sd zv6 zyy Tryz.f46 (fun V t => by kernel_rfl) (fun V => by kernel_rfl) (fun V hV => (c1 (zlq V hV) (c1 (zn6 V hV) (c1 (kb V hV) (c1 (uv V hV) c0))))) Tryz.func46
theorem z40 : SD 102 zox z4p := sd cN z65 Tryz.f102 (fun V t => by kernel_rfl) (fun V => by kernel_rfl) (fun V hV => c0) Tryz.func102
theorem zwm : SD 86 zkh zce := sd cN z66 Tryz.f86 (fun V t => by kernel_rfl) (fun V => by kernel_rfl) (fun V hV => c0) Tryz.func86
theorem zsj : SD 87 zge wt := sd cN z4q Tryz.f87 (fun V t => by kernel_rfl) (fun V => by kernel_rfl) (fun V hV => c0) Tryz.func87
theorem uc : SD 36 k7 xi := sd z07 z4r Tryz.f36 (fun V t => by kernel_rfl) (fun V => by kernel_rfl) (fun V hV => (c1 (zwm V hV) (c1 (zsj V hV) c0))) Tryz.func36
theorem kf : SD 83 y3 zq := sd cN zfd Tryz.f83 (fun V t => by kernel_rfl) (fun V => by kernel_rfl) (fun V hV => c0) Tryz.func83
theorem qc : SD 84 yo zl := sd cN zfe Tryz.f84 (fun V t => by kernel_rfl) (fun V => by kernel_rfl) (fun V hV => c0) Tryz.func84
theorem be : SD 85 q9 yj := sd cN zml Tryz.f85 (fun V t => by kernel_rfl) (fun V => by kernel_rfl) (fun V hV => c0) Tryz.func85
theorem gt : SD 136 xy qg := sd cN zfw Tryz.f136 (fun V t => by kernel_rfl) (fun V => by kernel_rfl) (fun V hV => c0) Tryz.func136
theorem zky : SD 137 vn zda := sd cN zmm Tryz.f137 (fun V t => by kernel_rfl) (fun V => by kernel_rfl) (fun V hV => c0) Tryz.func137
theorem zi2 : SD 90 zc4 zcf := sd zyz z2e Tryz.f90 (fun V t => by kernel_rfl) (fun V => by kernel_rfl) (fun V hV => (c1 (kf V hV) (c1 (qc V hV) (c1 (be V hV) c0)))) Tryz.func90
theorem z2z : SD 226 zlx zv7 := sd z2f z52 Tryz.f226 (fun V t => by kernel_rfl) (fun V => by kernel_rfl) (fun V hV => (c1 (uc V hV) (c1 (qc V hV) (c1 (zwm V hV) (c1 (zi2 V hV) c0))))) Tryz.func226
theorem zfj : SD 228 jf vr := sd cN zgf Tryz.f228 (fun V t => by kernel_rfl) (fun V => by kernel_rfl) (fun V hV => c0) Tryz.func228
theorem zd2 : SD 80 zac qk := sd z08 z4s Tryz.f80 (fun V t => by kernel_rfl) (fun V => by kernel_rfl) (fun V hV => (c1 (uc V hV) c0)) Tryz.func80
theorem zt3 : SD 89 zil zbq := sd cN z54 Tryz.f89 (fun V t => by kernel_rfl) (fun V => by kernel_rfl) (fun V hV => c0) Tryz.func89
theorem zew : SD 88 k8 y6 := sd cN zoy Tryz.f88 (fun V t => by kernel_rfl) (fun V => by kernel_rfl) (fun V hV => c0) Tryz.func88
theorem zn7 : SD 82 zdx zad := sd cN z09 Tryz.f82 (fun V t => by kernel_rfl) (fun V => by kernel_rfl) (fun V hV => c0) Tryz.func82
theorem zwn (V : Ev) (hV : V.OK) (Y : (xo).In → Option (xo).Out) (self : (yk).In → Option (yk).Out) (h : zn Tryz.prog (envI V [] [] (some ⟨xo, Y⟩)) 121 ⟨yk, self⟩) : zn Tryz.prog (envI V [] [] (some ⟨xo, Y⟩)) 121 ⟨yk, zoz V Y self⟩ := by
 rw [← z1b V Y self]
 exact zih (E2 := (envI V [] [] (some ⟨xo, Y⟩))) (z6a V hV (znq V Y self) [] (some ⟨xo, Y⟩) (by kernel_rfl) (by kernel_rfl) (km ((zaw h zii)) c0) zrk) rfl rfl rfl (.inr ⟨rfl, _, rfl⟩) Tryz.func121
theorem zl1 (V : Ev) (hV : V.OK) (Y : (xo).In → Option (xo).Out) : ∀ m, zn Tryz.prog (envI V [] [] (some ⟨xo, Y⟩)) 121 ⟨yk, zo0 V Y m⟩
 | 0 => zn.none
 | m + 1 => zwn V hV Y _ (zl1 V hV Y m)
theorem zx1 (V : Ev) (hV : V.OK) (Y : (xo).In → Option (xo).Out) : zn Tryz.prog (envI V [] [] (some ⟨xo, Y⟩)) 121 ⟨yk, zrs V Y⟩ := zn.rc hV (zl1 V hV Y)
theorem zu5 (V : Ev) (hV : V.OK) (Y : (xo).In → Option (xo).Out) : zn Tryz.prog (envI V [] [] (some ⟨xo, Y⟩)) 120 ⟨zbr, zh0 V Y⟩ := by
 rw [← zxo V Y]
 exact zih (E2 := (envI V [] [] (some ⟨xo, Y⟩))) (z6a V hV (zki V Y) [] (some ⟨xo, Y⟩) (by kernel_rfl) (by kernel_rfl) (km ((zaw (zx1 V hV Y) zii)) c0) zrk) rfl rfl rfl (.inr ⟨rfl, _, rfl⟩) Tryz.func120
theorem zl2 : SD 122 zcw zcg := sd cN zy0 Tryz.f122 (fun V t => by kernel_rfl) (fun V => by kernel_rfl) (fun V hV => c0) Tryz.func122
theorem zf2 : SD 117 jn qu := sd zfx zg8 Tryz.f117 (fun V t => by kernel_rfl) (fun V => by kernel_rfl) (fun V hV => (c1 (zl2 V hV) c0)) Tryz.func117
theorem zfk : SD 77 jg qj := sd zff zgg Tryz.f77 (fun V t => by kernel_rfl) (fun V => by kernel_rfl) (fun V hV => (c1 (zf2 V hV) (c1 (zl2 V hV) c0))) Tryz.func77
theorem zqc : SD 91 zet zfg := sd zy1 z2g Tryz.f91 (fun V t => by kernel_rfl) (fun V => by kernel_rfl) (fun V hV => (c1 (zfk V hV) c0)) Tryz.func91
theorem z41 (V : Ev) (hV : V.OK) : zn Tryz.prog (env V []) 227 ⟨zkj, zzv V⟩ := by
 rw [← z68 V]
 exact zih (E2 := (env V [])) (z6a V hV (zv8 V) (z1c V) none (by kernel_rfl) (by kernel_rfl) (km ((zaw (uc V hV) zii)) (km ((zaw (zd2 V hV) zii)) (km ((zaw (zn7 V hV) zii)) (km ((zaw (zsj V hV) zii)) (km ((zaw (zew V hV) zii)) (km ((zaw (zt3 V hV) zii)) (km ((zaw (zi2 V hV) zii)) (km ((zaw (zqc V hV) zii)) c0)))))))) (z78 (z77 (zu5 V hV) z95) zrk)) rfl rfl rfl (.inl rfl) Tryz.func227
theorem bz : SD 208 jk jr := sd zlh zns Tryz.f208 (fun V t => by kernel_rfl) (fun V => by kernel_rfl) (fun V hV => (c1 (z2z V hV) (c1 (z41 V hV) (c1 (zfj V hV) c0)))) Tryz.func208
theorem zkz : SD 172 vo zdb := sd zkk zmn Tryz.f172 (fun V t => by kernel_rfl) (fun V => by kernel_rfl) (fun V hV => (c1 (bz V hV) c0)) Tryz.func172
theorem zio : SD 173 kq zay := sd zim zjf Tryz.f173 (fun V t => by kernel_rfl) (fun V => by kernel_rfl) (fun V hV => (c1 (bz V hV) c0)) Tryz.func173
theorem zzf : SD 209 zh1 zuh := sd cN z2h Tryz.f209 (fun V t => by kernel_rfl) (fun V => by kernel_rfl) (fun V hV => c0) Tryz.func209
theorem bf : SD 138 ja qa := sd cN zmo Tryz.f138 (fun V t => by kernel_rfl) (fun V => by kernel_rfl) (fun V hV => c0) Tryz.func138
theorem zjr : SD 174 w6 zch := sd zjg zli Tryz.f174 (fun V t => by kernel_rfl) (fun V => by kernel_rfl) (fun V hV => (c1 (gt V hV) (c1 (bf V hV) (c1 (bz V hV) (c1 (zzf V hV) c0))))) Tryz.func174
theorem zex : SD 210 qz vc := sd cN zfy Tryz.f210 (fun V t => by kernel_rfl) (fun V => by kernel_rfl) (fun V hV => c0) Tryz.func210
theorem zlr : SD 175 uj zdy := sd zlj znt Tryz.f175 (fun V t => by kernel_rfl) (fun V => by kernel_rfl) (fun V hV => (c1 (bf V hV) (c1 (zex V hV) c0))) Tryz.func175
theorem zzg : SD 101 zh2 zui := sd zy2 z2i Tryz.f101 (fun V t => by kernel_rfl) (fun V => by kernel_rfl) (fun V hV => (c1 (uc V hV) (c1 (kf V hV) (c1 (qc V hV) (c1 (be V hV) (c1 (gt V hV) (c1 (zky V hV) (c1 (bf V hV) (c1 (zkz V hV) (c1 (zio V hV) (c1 (zjr V hV) (c1 (zlr V hV) c0)))))))))))) Tryz.func101
theorem zzh : SD 47 zh3 zuj := sd zy3 z2j Tryz.f47 (fun V t => by kernel_rfl) (fun V => by kernel_rfl) (fun V hV => (c1 (zzg V hV) (c1 (z40 V hV) c0))) Tryz.func47
theorem zel : SD 63 uk xd := sd ztc zv9 Tryz.f63 (fun V t => by kernel_rfl) (fun V => by kernel_rfl) (fun V hV => (c1 (uc V hV) c0)) Tryz.func63
theorem zpk : SD 62 zae k9 := sd zo1 zrt Tryz.f62 (fun V t => by kernel_rfl) (fun V => by kernel_rfl) (fun V hV => (c1 (zel V hV) c0)) Tryz.func62
theorem zpl : SD 64 zaf wa := sd cN zru Tryz.f64 (fun V t => by kernel_rfl) (fun V => by kernel_rfl) (fun V hV => c0) Tryz.func64
theorem z6b : SD 66 zs6 zkl := sd z55 z8x Tryz.f66 (fun V t => by kernel_rfl) (fun V => by kernel_rfl) (fun V hV => (c1 (zd2 V hV) c0)) Tryz.func66
theorem zpm : SD 65 zag wb := sd zo2 zrv Tryz.f65 (fun V t => by kernel_rfl) (fun V => by kernel_rfl) (fun V hV => (c1 (z6b V hV) c0)) Tryz.func65
theorem ztu : SD 140 zdg vt := sd cN zwa Tryz.f140 (fun V t => by kernel_rfl) (fun V => by kernel_rfl) (fun V hV => c0) Tryz.func140
theorem zb3 : SD 139 xp zj := sd zb1 zcx Tryz.f139 (fun V t => by kernel_rfl) (fun V => by kernel_rfl) (fun V hV => (c1 (ztu V hV) c0)) Tryz.func139
theorem z1s : SD 109 zjh gu := sd z1d z4t Tryz.f109 (fun V t => by kernel_rfl) (fun V => by kernel_rfl) (fun V hV => (c1 (zb3 V hV) c0)) Tryz.func109
theorem zmy : SD 68 zfn vu := sd z2k z56 Tryz.f68 (fun V t => by kernel_rfl) (fun V => by kernel_rfl) (fun V hV => (c1 (zd2 V hV) (c1 (z1s V hV) c0))) Tryz.func68
theorem zx2 : SD 69 zgh vv := sd zxp z1e Tryz.f69 (fun V t => by kernel_rfl) (fun V => by kernel_rfl) (fun V hV => (c1 (zc0 V hV) (c1 (zkx V hV) c0))) Tryz.func69
theorem zpn : SD 67 zah wc := sd zo3 zrw Tryz.f67 (fun V t => by kernel_rfl) (fun V => by kernel_rfl) (fun V hV => (c1 (zmy V hV) (c1 (zx2 V hV) c0))) Tryz.func67
theorem zu6 : SD 61 zee kj := sd zuk zxq Tryz.f61 (fun V t => by kernel_rfl) (fun V => by kernel_rfl) (fun V hV => (c1 (zpk V hV) (c1 (zpl V hV) (c1 (zpm V hV) (c1 (zpn V hV) c0))))) Tryz.func61
theorem zwo (V : Ev) (hV : V.OK) (Y : (xq).In → Option (xq).Out) (self : (ym).In → Option (ym).Out) (h : zn Tryz.prog (envI V [] [] (some ⟨xq, Y⟩)) 121 ⟨ym, self⟩) : zn Tryz.prog (envI V [] [] (some ⟨xq, Y⟩)) 121 ⟨ym, zci V Y self⟩ := by
 rw [← z1g V Y self]
 exact zih (E2 := (envI V [] [] (some ⟨xq, Y⟩))) (z6a V hV (znu V Y self) [] (some ⟨xq, Y⟩) (by kernel_rfl) (by kernel_rfl) (km ((zaw h zii)) c0) zrk) rfl rfl rfl (.inr ⟨rfl, _, rfl⟩) Tryz.func121
theorem zl3 (V : Ev) (hV : V.OK) (Y : (xq).In → Option (xq).Out) : ∀ m, zn Tryz.prog (envI V [] [] (some ⟨xq, Y⟩)) 121 ⟨ym, qo V Y m⟩
 | 0 => zn.none
 | m + 1 => zwo V hV Y _ (zl3 V hV Y m)
theorem zx3 (V : Ev) (hV : V.OK) (Y : (xq).In → Option (xq).Out) : zn Tryz.prog (envI V [] [] (some ⟨xq, Y⟩)) 121 ⟨ym, zdz V Y⟩ := zn.rc hV (zl3 V hV Y)
theorem zu7 (V : Ev) (hV : V.OK) (Y : (xq).In → Option (xq).Out) : zn Tryz.prog (envI V [] [] (some ⟨xq, Y⟩)) 120 ⟨zbs, gq V Y⟩ := by
 rw [← zxs V Y]
 exact zih (E2 := (envI V [] [] (some ⟨xq, Y⟩))) (z6a V hV (zkm V Y) [] (some ⟨xq, Y⟩) (by kernel_rfl) (by kernel_rfl) (km ((zaw (zx3 V hV Y) zii)) c0) zrk) rfl rfl rfl (.inr ⟨rfl, _, rfl⟩) Tryz.func120
theorem zf3 (V : Ev) (hV : V.OK) : zn Tryz.prog (env V []) 119 ⟨x9, yy V⟩ := by
 rw [← zha V]
 exact zih (E2 := (env V [])) (z6a V hV (bw V) (za3 V) none (by kernel_rfl) (by kernel_rfl) c0 (z78 (z77 (zu7 V hV) z95) zrk)) rfl rfl rfl (.inl rfl) Tryz.func119
theorem zk0 : SD 81 vp je := sd zkn zmp Tryz.f81 (fun V t => by kernel_rfl) (fun V => by kernel_rfl) (fun V hV => (c1 (zf3 V hV) c0)) Tryz.func81
theorem zk1 : SD 34 zef vd := sd z1h z4u Tryz.f34 (fun V t => by kernel_rfl) (fun V => by kernel_rfl) (fun V hV => (c1 (zd2 V hV) (c1 (zk0 V hV) (c1 (zn7 V hV) c0)))) Tryz.func34
theorem z22 : SD 70 zly zd0 := sd z2l z57 Tryz.f70 (fun V t => by kernel_rfl) (fun V => by kernel_rfl) (fun V hV => (c1 (zk1 V hV) (c1 (gr V hV) (c1 (vh V hV) c0)))) Tryz.func70
theorem zar : SD 28 wv y8 := sd zwb zy4 Tryz.f28 (fun V t => by kernel_rfl) (fun V => by kernel_rfl) (fun V hV => (c1 (zu6 V hV) (c1 (zmy V hV) (c1 (z22 V hV) c0)))) Tryz.func28
theorem ztv : SD 75 zdh ba := sd ztd zwc Tryz.f75 (fun V t => by kernel_rfl) (fun V => by kernel_rfl) (fun V hV => (c1 (zar V hV) (c1 (zwl V hV) (c1 (zzh V hV) c0)))) Tryz.func75
theorem zx4 : SD 144 zgi zrx := sd cN z1i Tryz.f144 (fun V t => by kernel_rfl) (fun V => by kernel_rfl) (fun V hV => c0) Tryz.func144
theorem zi3 : SD 184 zc5 zfh := sd cN z2m Tryz.f184 (fun V t => by kernel_rfl) (fun V => by kernel_rfl) (fun V hV => c0) Tryz.func184
theorem zsk : SD 186 zgj znv := sd cN z4v Tryz.f186 (fun V t => by kernel_rfl) (fun V => by kernel_rfl) (fun V hV => c0) Tryz.func186
theorem zwp : SD 185 ze2 zo4 := sd zwd zy5 Tryz.f185 (fun V t => by kernel_rfl) (fun V => by kernel_rfl) (fun V hV => (c1 (zi3 V hV) (c1 (zsk V hV) c0))) Tryz.func185
theorem zzi : SD 146 zh4 zul := sd zy6 z2n Tryz.f146 (fun V t => by kernel_rfl) (fun V => by kernel_rfl) (fun V hV => (c1 (zwp V hV) c0)) Tryz.func146
theorem zzj : SD 145 zh5 zum := sd zy7 z2o Tryz.f145 (fun V t => by kernel_rfl) (fun V => by kernel_rfl) (fun V hV => (c1 (zzi V hV) (c1 (zi3 V hV) c0))) Tryz.func145
theorem zx5 : SD 147 zgk zry := sd cN z1j Tryz.f147 (fun V t => by kernel_rfl) (fun V => by kernel_rfl) (fun V hV => c0) Tryz.func147
theorem zzk : SD 146 zh6 zun := sd zy8 z2p Tryz.f146 (fun V t => by kernel_rfl) (fun V => by kernel_rfl) (fun V hV => (c1 (zx5 V hV) c0)) Tryz.func146
theorem zzl : SD 187 zh7 zuo := sd zy9 z2q Tryz.f187 (fun V t => by kernel_rfl) (fun V => by kernel_rfl) (fun V hV => (c1 (zi3 V hV) (c1 (zsk V hV) c0))) Tryz.func187
theorem zzm : SD 146 zh8 zup := sd zza z2r Tryz.f146 (fun V t => by kernel_rfl) (fun V => by kernel_rfl) (fun V hV => (c1 (zzl V hV) c0)) Tryz.func146
theorem z23 : SD 148 zlz z1k := sd z2s z58 Tryz.f148 (fun V t => by kernel_rfl) (fun V => by kernel_rfl) (fun V hV => (c1 (zzm V hV) (c1 (zhf V hV) c0))) Tryz.func148
theorem zqd : SD 149 zeu zko := sd cN z2t Tryz.f149 (fun V t => by kernel_rfl) (fun V => by kernel_rfl) (fun V hV => c0) Tryz.func149
theorem zzn : SD 146 zh9 zuq := sd zzb z2u Tryz.f146 (fun V t => by kernel_rfl) (fun V => by kernel_rfl) (fun V hV => (c1 (zqd V hV) c0)) Tryz.func146
theorem zpo : SD 56 zai zgl := sd zo5 zrz Tryz.f56 (fun V t => by kernel_rfl) (fun V => by kernel_rfl) (fun V hV => (c1 (zdk V hV) c0)) Tryz.func56
theorem zjs : SD 242 w7 zcj := sd cN zlk Tryz.f242 (fun V t => by kernel_rfl) (fun V => by kernel_rfl) (fun V hV => c0) Tryz.func242
theorem zgp : SD 229 jx ga := sd cN zht Tryz.f229 (fun V t => by kernel_rfl) (fun V => by kernel_rfl) (fun V hV => c0) Tryz.func229
theorem zi4 : SD 212 wd zbt := sd zix zkp Tryz.f212 (fun V t => by kernel_rfl) (fun V => by kernel_rfl) (fun V hV => (c1 (zgp V hV) c0)) Tryz.func212
theorem zsl : SD 232 zck ziy := sd zr0 zur Tryz.f232 (fun V t => by kernel_rfl) (fun V => by kernel_rfl) (fun V hV => (c1 (zi4 V hV) (c1 (zjs V hV) c0))) Tryz.func232
theorem zu8 (V : Ev) : zn Tryz.prog (env V []) 233 ⟨zeg, zmq V⟩ := z62 ybb
theorem zq5 : SD 216 za8 zhu := sd zqv zte Tryz.f216 (fun V t => by kernel_rfl) (fun V => by kernel_rfl) (fun V hV => (c1 (zkt V hV) (c1 (zsl V hV) (c1 (zu8 V) c0)))) Tryz.func216
theorem zu9 : SD 189 zeh zmr := sd zus zxt Tryz.f189 (fun V t => by kernel_rfl) (fun V => by kernel_rfl) (fun V hV => (c1 (zq5 V hV) c0)) Tryz.func189
theorem zwq (V : Ev) : zn Tryz.prog (env V []) 190 ⟨ze3, zo6 V⟩ := z8w ycb ydh
theorem z1t : SD 150 zji zxu := sd z1l z4w Tryz.f150 (fun V t => by kernel_rfl) (fun V => by kernel_rfl) (fun V hV => (c1 (zpo V hV) (c1 (zu9 V hV) (c1 (zwq V) c0)))) Tryz.func150
theorem zx6 : SD 151 zgm zr1 := sd zxv z1m Tryz.f151 (fun V t => by kernel_rfl) (fun V => by kernel_rfl) (fun V hV => (c1 (zqd V hV) c0)) Tryz.func151
theorem zzo : SD 146 zia zut := sd zzc z2v Tryz.f146 (fun V t => by kernel_rfl) (fun V => by kernel_rfl) (fun V hV => (c1 (zx6 V hV) c0)) Tryz.func146
theorem z24 : SD 152 zl0 z1n := sd z2w z59 Tryz.f152 (fun V t => by kernel_rfl) (fun V => by kernel_rfl) (fun V hV => (c1 (zgo V hV) c0)) Tryz.func152
theorem z1u : SD 116 zjj zxw := sd z1o z4x Tryz.f116 (fun V t => by kernel_rfl) (fun V => by kernel_rfl) (fun V hV => (c1 (zkx V hV) (c1 (zx4 V hV) (c1 (zzj V hV) (km ((zaw (zzk V hV) (zaw (zzn V hV) (zaw (zzo V hV) zii)))) (c1 (z23 V hV) (c1 (z1t V hV) (c1 (z24 V hV) c0)))))))) Tryz.func116
theorem z1v : SD 76 zjk zxx := sd z1p z4y Tryz.f76 (fun V t => by kernel_rfl) (fun V => by kernel_rfl) (fun V hV => (c1 (z1u V hV) c0)) Tryz.func76
theorem kk : SD 30 x5 zy := sd zms zo7 Tryz.f30 (fun V t => by kernel_rfl) (fun V => by kernel_rfl) (fun V hV => (c1 (ztv V hV) (c1 (z1v V hV) c0))) Tryz.func30
theorem zmz : SD 43 gd zo := sd cN zo8 Tryz.f43 (fun V t => by kernel_rfl) (fun V => by kernel_rfl) (fun V hV => c0) Tryz.func43
theorem ud : SD 14 jt ya := sd zr2 zuu Tryz.f14 (fun V t => by kernel_rfl) (fun V => by kernel_rfl) (fun V hV => (c1 (zmz V hV) c0)) Tryz.func14
theorem zm0 : SD 44 ge ke := sd cN zo9 Tryz.f44 (fun V t => by kernel_rfl) (fun V => by kernel_rfl) (fun V hV => c0) Tryz.func44
theorem zd3 : SD 15 ve qw := sd zr3 zuv Tryz.f15 (fun V t => by kernel_rfl) (fun V => by kernel_rfl) (fun V hV => (c1 (zm0 V hV) c0)) Tryz.func15
theorem zsm : SD 123 zcl x3 := sd cN zuw Tryz.f123 (fun V t => by kernel_rfl) (fun V => by kernel_rfl) (fun V hV => c0) Tryz.func123
theorem zgq : SD 153 vw yu := sd cN zr4 Tryz.f153 (fun V t => by kernel_rfl) (fun V => by kernel_rfl) (fun V hV => c0) Tryz.func153
theorem zq6 : SD 124 za9 xj := sd zqw ztf Tryz.f124 (fun V t => by kernel_rfl) (fun V => by kernel_rfl) (fun V hV => (c1 (zgq V hV) c0)) Tryz.func124
theorem zpp : SD 154 zaj y1 := sd cN zr5 Tryz.f154 (fun V t => by kernel_rfl) (fun V => by kernel_rfl) (fun V hV => c0) Tryz.func154
theorem zsn : SD 155 zcm x4 := sd cN zux Tryz.f155 (fun V t => by kernel_rfl) (fun V => by kernel_rfl) (fun V hV => c0) Tryz.func155
theorem zn8 : SD 125 br y4 := sd znw zqx Tryz.f125 (fun V t => by kernel_rfl) (fun V => by kernel_rfl) (fun V hV => (c1 (zgq V hV) (c1 (zpp V hV) (c1 (zsn V hV) c0)))) Tryz.func125
theorem zq7 : SD 126 zba xl := sd cN ztg Tryz.f126 (fun V t => by kernel_rfl) (fun V => by kernel_rfl) (fun V hV => c0) Tryz.func126
theorem zgr : SD 93 vx yv := sd zpa zr6 Tryz.f93 (fun V t => by kernel_rfl) (fun V => by kernel_rfl) (fun V hV => (c1 (zsm V hV) (c1 (zq6 V hV) (c1 (zn8 V hV) (c1 (zq7 V hV) c0))))) Tryz.func93
theorem gk : SD 94 ju zz := sd zpb zr7 Tryz.f94 (fun V t => by kernel_rfl) (fun V => by kernel_rfl) (fun V hV => (c1 (zgr V hV) c0)) Tryz.func94
theorem zpq : SD 113 zak x6 := sd cN zr8 Tryz.f113 (fun V t => by kernel_rfl) (fun V => by kernel_rfl) (fun V hV => c0) Tryz.func113
theorem ztw : SD 71 zdi jv := sd zth zwe Tryz.f71 (fun V t => by kernel_rfl) (fun V => by kernel_rfl) (fun V hV => (c1 (gk V hV) (c1 (zpq V hV) c0))) Tryz.func71
theorem zq8 : SD 115 zbb xm := sd cN zti Tryz.f115 (fun V t => by kernel_rfl) (fun V => by kernel_rfl) (fun V hV => c0) Tryz.func115
theorem zdd : SD 73 wu yp := sd zqy ztj Tryz.f73 (fun V t => by kernel_rfl) (fun V => by kernel_rfl) (fun V hV => (c1 (gk V hV) (c1 (zq8 V hV) c0))) Tryz.func73
theorem zpr : SD 143 zal ki := sd cN zr9 Tryz.f143 (fun V t => by kernel_rfl) (fun V => by kernel_rfl) (fun V hV => c0) Tryz.func143
theorem zq9 : SD 114 zbc zbu := sd zqz ztk Tryz.f114 (fun V t => by kernel_rfl) (fun V => by kernel_rfl) (fun V hV => (c1 (zpr V hV) c0)) Tryz.func114
theorem zgs : SD 53 vy jh := sd cN zsa Tryz.f53 (fun V t => by kernel_rfl) (fun V => by kernel_rfl) (fun V hV => c0) Tryz.func53
theorem zra : SD 72 zbd zbv := sd zq0 ztl Tryz.f72 (fun V t => by kernel_rfl) (fun V => by kernel_rfl) (fun V hV => (c1 (zgs V hV) (c1 (zdd V hV) (c1 (zq9 V hV) c0)))) Tryz.func72
theorem zps (V : Ev) (hV : V.OK) (self : (zt).In → Option (zt).Out) (h : zn Tryz.prog (env V []) 118 ⟨zt, self⟩) : zn Tryz.prog (env V []) 118 ⟨zt, we V self⟩ := by
 rw [← ztn V self]
 exact zih (E2 := (env V [])) (z6a V hV (zhe V self) [] none (by kernel_rfl) (by kernel_rfl) (km ((zaw h zii)) c0) zrk) rfl rfl rfl (.inl rfl) Tryz.func118
theorem zgt (V : Ev) (hV : V.OK) : ∀ m, zn Tryz.prog (env V []) 118 ⟨zt, yw V m⟩
 | 0 => zn.none
 | m + 1 => zps V hV _ (zgt V hV m)
theorem zrb (V : Ev) (hV : V.OK) : zn Tryz.prog (env V []) 118 ⟨zt, vf V⟩ := zn.rc hV (zgt V hV)
theorem zgu : SD 79 vz xg := sd zpc zsb Tryz.f79 (fun V t => by kernel_rfl) (fun V => by kernel_rfl) (fun V hV => (c1 (gk V hV) (c1 (zrb V hV) c0))) Tryz.func79
theorem zrc : SD 74 zbe qh := sd zq1 zto Tryz.f74 (fun V t => by kernel_rfl) (fun V => by kernel_rfl) (fun V hV => (c1 (zgu V hV) c0)) Tryz.func74
theorem zgv : SD 29 ua wg := sd zpd zsc Tryz.f29 (fun V t => by kernel_rfl) (fun V => by kernel_rfl) (fun V hV => (c1 (ztw V hV) (c1 (zra V hV) (c1 (zdd V hV) (c1 (zrc V hV) c0))))) Tryz.func29
theorem ziq : SD 78 bb qx := sd zsd zuy Tryz.f78 (fun V t => by kernel_rfl) (fun V => by kernel_rfl) (fun V hV => (c1 (zar V hV) c0)) Tryz.func78
theorem zf4 : SD 117 jo yn := sd zfz zhb Tryz.f117 (fun V t => by kernel_rfl) (fun V => by kernel_rfl) (fun V hV => (c1 (ziq V hV) c0)) Tryz.func117
theorem zfl : SD 77 ji yi := sd zfi zgn Tryz.f77 (fun V t => by kernel_rfl) (fun V => by kernel_rfl) (fun V hV => (c1 (ziq V hV) (c1 (zf4 V hV) c0))) Tryz.func77
theorem zi5 : SD 32 zc6 vg := sd zzd z2x Tryz.f32 (fun V t => by kernel_rfl) (fun V => by kernel_rfl) (fun V hV => (c1 (zk1 V hV) (c1 (zfl V hV) c0))) Tryz.func32
theorem zso : SD 33 zcn zcy := sd zse zuz Tryz.f33 (fun V t => by kernel_rfl) (fun V => by kernel_rfl) (fun V hV => (c1 (zgv V hV) (c1 (zgu V hV) c0))) Tryz.func33
theorem zhg : SD 31 ux jy := sd cN ztp Tryz.f31 (fun V t => by kernel_rfl) (fun V => by kernel_rfl) (fun V hV => c0) Tryz.func31
theorem zpt : SD 107 zam wh := sd cN zsf Tryz.f107 (fun V t => by kernel_rfl) (fun V => by kernel_rfl) (fun V hV => c0) Tryz.func107
theorem zsp : SD 59 zco uu := sd zsg zu0 Tryz.f59 (fun V t => by kernel_rfl) (fun V => by kernel_rfl) (fun V hV => (c1 (zhg V hV) (c1 (zpt V hV) c0))) Tryz.func59
theorem zhh : SD 23 uy jb := sd zq2 ztq Tryz.f23 (fun V t => by kernel_rfl) (fun V => by kernel_rfl) (fun V hV => (c1 (zsp V hV) c0)) Tryz.func23
theorem soundpouncelaw18_ScriptReady_ : SD 8 bc zbw := sd ziz zkq Tryz.f8 (fun V t => by kernel_rfl) (fun V => by kernel_rfl) (fun V hV => (c1 (ud V hV) (c1 (zd3 V hV) (c1 (zhh V hV) (c1 (zar V hV) (c1 (zgv V hV) (c1 (kk V hV) (c1 (zhg V hV) (c1 (zi5 V hV) (c1 (zso V hV) c0)))))))))) Tryz.func8
theorem soundpouncelaw18_ScriptBelow_ : SD 9 bd zbx := sd zi0 zkr Tryz.f9 (fun V t => by kernel_rfl) (fun V => by kernel_rfl) (fun V hV => (c1 (ud V hV) (c1 (zar V hV) (c1 (kk V hV) (c1 (zi5 V hV) (c1 (zk1 V hV) c0)))))) Tryz.func9
theorem zl4 : SD 35 zcz gf := sd zwf zze Tryz.f35 (fun V t => by kernel_rfl) (fun V => by kernel_rfl) (fun V hV => (c1 (uc V hV) (c1 (zel V hV) (c1 (kf V hV) (c1 (qc V hV) (c1 (be V hV) c0)))))) Tryz.func35
theorem soundpouncelaw18_ScriptOnce_ : SD 10 bx zcp := sd zjl zll Tryz.f10 (fun V t => by kernel_rfl) (fun V => by kernel_rfl) (fun V hV => (c1 (ud V hV) (c1 (zar V hV) (c1 (kk V hV) (c1 (zl4 V hV) (c1 (uc V hV) c0)))))) Tryz.func10
theorem z42 : SD 37 zpe zwg := sd z4z z69 Tryz.f37 (fun V t => by kernel_rfl) (fun V => by kernel_rfl) (fun V hV => (c1 (uc V hV) (c1 (zd2 V hV) (c1 (zew V hV) (c1 (zt3 V hV) (c1 (zi2 V hV) (c1 (zqc V hV) c0))))))) Tryz.func37
theorem soundpouncelaw18_ScriptOut_ : SD 11 zaz zdc := sd zks zmt Tryz.f11 (fun V t => by kernel_rfl) (fun V => by kernel_rfl) (fun V hV => (c1 (ud V hV) (c1 (kk V hV) (c1 (zi5 V hV) (c1 (z42 V hV) c0))))) Tryz.func11
theorem zsq : SD 92 zcq ze4 := sd cN zu1 Tryz.f92 (fun V t => by kernel_rfl) (fun V => by kernel_rfl) (fun V hV => c0) Tryz.func92
theorem zpu : SD 38 zan zao := sd zpf zsh Tryz.f38 (fun V t => by kernel_rfl) (fun V => by kernel_rfl) (fun V hV => (c1 (ud V hV) (c1 (zsq V hV) c0))) Tryz.func38
theorem zpv : SD 39 zap zaq := sd zpg zsi Tryz.f39 (fun V t => by kernel_rfl) (fun V => by kernel_rfl) (fun V hV => (c1 (zd3 V hV) (c1 (zgr V hV) c0))) Tryz.func39
theorem ztx : SD 40 zdj zd1 := sd ztr zwh Tryz.f40 (fun V t => by kernel_rfl) (fun V => by kernel_rfl) (fun V hV => (c1 (zc0 V hV) (c1 (zel V hV) (c1 (zmy V hV) c0)))) Tryz.func40
theorem zm1 : SD 41 gg uz := sd zmu zph Tryz.f41 (fun V t => by kernel_rfl) (fun V => by kernel_rfl) (fun V hV => (c1 (zgs V hV) (c1 (zdd V hV) (c1 (gk V hV) c0)))) Tryz.func41
theorem soundpouncelaw18_ScriptStarts_ : SD 12 gh za0 := sd zin zjm Tryz.f12 (fun V t => by kernel_rfl) (fun V => by kernel_rfl) (fun V hV => (c1 (zd3 V hV) (c1 (zhh V hV) (c1 (kk V hV) (c1 (zl4 V hV) (c1 (zpu V hV) (c1 (zpv V hV) (c1 (ztx V hV) (c1 (zm1 V hV) c0))))))))) Tryz.func12
end Go.En.Pl
