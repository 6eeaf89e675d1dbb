/- Text S of this seat: written by a program of ours, or by hand; checked by Lean. -/
import Derived.Test.YtljnjjnjdanajaaGreatDoorG
import Derived.Test.YtljnjjnjdanajaaGreatDoorLay
set_option linter.unusedVariables false
namespace Go.En.Pl
open Go.Proofs
theorem ycg:∀t,eqs.contains t=true→EqTy Tryz.prog t:=
 (z6o ⟨by kernel_rfl,by kernel_rfl,by kernel_rfl,by kernel_rfl⟩ z8x)
theorem yau:∀t,yat.contains t=true→Key2 Tryz.prog t:=
 z6p
theorem yav:∀f x,exts.lookup f=some x→z2y Tryz.prog f x:=
 (z4p (zxn Tryz.func165 (by kernel_rfl) (by kernel_rfl) (by kernel_rfl) (by kernel_rfl)) z6q)
theorem zzj (V:Ev) (hV:V.OK) (l:List (FuncId×List zem)) (il:List (FuncId×List zoa)) (y:Option zem) (h1:l.all (fun p=>ztn Tryz.prog p.1)=true) (h1i:il.all (fun p=>ztn Tryz.prog p.1)=true) (h2:∀g s,s∈((l.lookup g).getD [])→zg Tryz.prog (envI V [] [] y) g s) (h3:∀f I,I∈((il.lookup f).getD [])→zov Tryz.prog (env V []) f I):zp5 Tryz.prog (envI V l il y) where
 types:=yf.of_tab rfl (ycf V l il y) ycg yau
 calls:=fun g s hs=>(h2 g s hs).env rfl rfl rfl (.inr rfl)
 mixed:=by kernel_rfl
 ext:=fun f h=>yav f _ h rfl
 it:=hV.it
 lp0:=rfl
 its:=fun f I hI Y=>(h3 f I hI Y).env rfl rfl rfl (.inr rfl)
 enters:=fun g h=>h.elim (zow h1 g) (zow h1i g)

abbrev SD (n:Nat) (s:Sig) (g:Ev→s.In→Option s.Out):Prop:=∀V:Ev,V.OK→zg Tryz.prog (env V []) n ⟨s,g V⟩
theorem sd {n:Nat} {s:Sig} {g:Ev→s.In→Option s.Out} (c:Ev→Cl) (a:Ann) (fn:Func) (h:∀V t,aFn (envI V (c V) [] none) fn s a t=g V t) (h1:∀V,(c V).all (fun p=>ztn Tryz.prog p.1)=true) (h2:∀V:Ev,V.OK→∀g s,s∈(((c V).lookup g).getD [])→zg Tryz.prog (envI V [] [] none) g s) (hf:Tryz.prog.funcs[n]? = some fn):SD n s g:=by
 intro V hV
 have e:aFn (envI V (c V) [] none) fn s a=g V:=funext (h V)
 rw [←e]
 exact zd6 (E2:=(env V [])) (zzj V hV (c V) [] none (h1 V) rfl (h2 V hV) zlu) rfl rfl rfl (.inl rfl) hf
theorem c1 {k:FuncId} {E:Env} {s1:zem} {l:Cl} (h1:zg Tryz.prog E k s1) (h2:∀g s,s∈((l.lookup g).getD [])→zg Tryz.prog E g s):∀g s,s∈((((k,[s1])::l).lookup g).getD [])→zg Tryz.prog E g s:=xg (wg h1 za1) h2
theorem c0 {E:Env}:∀g s,s∈((([]:Cl).lookup g).getD [])→zg Tryz.prog E g s:=z4n rfl
theorem wc:SD 106 xu yw:=sd cN zkz Tryz.f106 (fun V t=>by kernel_rfl) (fun V=>by kernel_rfl) (fun V hV=>c0) Tryz.func106
theorem zpb:SD 107 zbl gk:=sd cN zrs Tryz.f107 (fun V t=>by kernel_rfl) (fun V=>by kernel_rfl) (fun V hV=>c0) Tryz.func107
theorem zfb:SD 147 jw gm:=sd cN zgm Tryz.f147 (fun V t=>by kernel_rfl) (fun V=>by kernel_rfl) (fun V hV=>c0) Tryz.func147
theorem gz:SD 133 jg qp:=sd zj0 zlv Tryz.f133 (fun V t=>by kernel_rfl) (fun V=>by kernel_rfl) (fun V hV=>(c1 (zfb V hV) c0)) Tryz.func133
theorem zpc:SD 141 zbm zj1:=sd zoy zrt Tryz.f141 (fun V t=>by kernel_rfl) (fun V=>by kernel_rfl) (fun V hV=>(c1 (gz V hV) c0)) Tryz.func141
theorem vu:SD 126 ki xw:=sd zru zvc Tryz.f126 (fun V t=>by kernel_rfl) (fun V=>by kernel_rfl) (fun V hV=>(c1 (zpc V hV) c0)) Tryz.func126
theorem zi6:SD 125 vd kf:=sd zib zk0 Tryz.f125 (fun V t=>by kernel_rfl) (fun V=>by kernel_rfl) (fun V hV=>(c1 (vu V hV) c0)) Tryz.func125
theorem zi7:SD 78 ve gn:=sd zic zk1 Tryz.f78 (fun V t=>by kernel_rfl) (fun V=>by kernel_rfl) (fun V hV=>(c1 (zi6 V hV) c0)) Tryz.func78
theorem zes:SD 124 bm w9:=sd cN zvd Tryz.f124 (fun V t=>by kernel_rfl) (fun V=>by kernel_rfl) (fun V hV=>c0) Tryz.func124
theorem ql:SD 80 yz zq:=sd cN zid Tryz.f80 (fun V t=>by kernel_rfl) (fun V=>by kernel_rfl) (fun V hV=>c0) Tryz.func80
theorem zuc:SD 127 zez zie:=sd cN zxq Tryz.f127 (fun V t=>by kernel_rfl) (fun V=>by kernel_rfl) (fun V hV=>c0) Tryz.func127
theorem zud:SD 130 ze0 zif:=sd ztr zxr Tryz.f130 (fun V t=>by kernel_rfl) (fun V=>by kernel_rfl) (fun V hV=>(c1 (zes V hV) c0)) Tryz.func130
theorem vn:SD 109 qn zy:=sd zk2 zmu Tryz.f109 (fun V t=>by kernel_rfl) (fun V=>by kernel_rfl) (fun V hV=>(c1 (wc V hV) (c1 (zud V hV) c0))) Tryz.func109
theorem zi8:SD 114 zag vx:=sd cN zts Tryz.f114 (fun V t=>by kernel_rfl) (fun V=>by kernel_rfl) (fun V hV=>c0) Tryz.func114
theorem zb5 (V:Ev):zg Tryz.prog (env V []) 166 ⟨ka,xi V⟩:=z0i z6t rfl
theorem zli:SD 148 un uu:=sd zk3 zmv Tryz.f148 (fun V t=>by kernel_rfl) (fun V=>by kernel_rfl) (fun V hV=>(c1 (zb5 V) c0)) Tryz.func148
theorem zi9:SD 134 zah vy:=sd zp8 ztt Tryz.f134 (fun V t=>by kernel_rfl) (fun V=>by kernel_rfl) (fun V hV=>(c1 (zli V hV) c0)) Tryz.func134
theorem zqo:SD 149 zcv zd7:=sd cN ztu Tryz.f149 (fun V t=>by kernel_rfl) (fun V=>by kernel_rfl) (fun V hV=>c0) Tryz.func149
theorem zfc:SD 181 jx wo:=sd cN zgn Tryz.f181 (fun V t=>by kernel_rfl) (fun V=>by kernel_rfl) (fun V hV=>c0) Tryz.func181
theorem zfd:SD 167 jy wq:=sd ze1 zgo Tryz.f167 (fun V t=>by kernel_rfl) (fun V=>by kernel_rfl) (fun V hV=>(c1 (zfc V hV) c0)) Tryz.func167
theorem zkg:SD 150 vz ua:=sd zj2 zlw Tryz.f150 (fun V t=>by kernel_rfl) (fun V=>by kernel_rfl) (fun V hV=>(c1 (zfd V hV) c0)) Tryz.func150
theorem znv:SD 182 zau zdu:=sd znp zp9 Tryz.f182 (fun V t=>by kernel_rfl) (fun V=>by kernel_rfl) (fun V hV=>(c1 (zb5 V) c0)) Tryz.func182
theorem zlj:SD 168 uo uv:=sd zk4 zmw Tryz.f168 (fun V t=>by kernel_rfl) (fun V=>by kernel_rfl) (fun V hV=>(c1 (znv V hV) c0)) Tryz.func168
theorem zev:SD 196 uc z7:=sd cN zoz Tryz.f196 (fun V t=>by kernel_rfl) (fun V=>by kernel_rfl) (fun V hV=>c0) Tryz.func196
theorem zf9:SD 197 kj bq:=sd zfr zhn Tryz.f197 (fun V t=>by kernel_rfl) (fun V=>by kernel_rfl) (fun V hV=>(c1 (zev V hV) c0)) Tryz.func197
theorem zja:SD 190 vf va:=sd zig zk5 Tryz.f190 (fun V t=>by kernel_rfl) (fun V=>by kernel_rfl) (fun V hV=>(c1 (zev V hV) (c1 (zf9 V hV) c0))) Tryz.func190
theorem zkh:SD 183 ud ue:=sd zj3 zlx Tryz.f183 (fun V t=>by kernel_rfl) (fun V=>by kernel_rfl) (fun V hV=>(c1 (zja V hV) c0)) Tryz.func183
theorem wd:SD 198 xx yx:=sd cN zk6 Tryz.f198 (fun V t=>by kernel_rfl) (fun V=>by kernel_rfl) (fun V hV=>c0) Tryz.func198
theorem zfe:SD 191 jz wt:=sd ze2 zgp Tryz.f191 (fun V t=>by kernel_rfl) (fun V=>by kernel_rfl) (fun V hV=>(c1 (wd V hV) c0)) Tryz.func191
theorem zga:SD 192 kk br:=sd zfs zho Tryz.f192 (fun V t=>by kernel_rfl) (fun V=>by kernel_rfl) (fun V hV=>(c1 (wd V hV) c0)) Tryz.func192
theorem znw (V:Ev):zg Tryz.prog (env V []) 201 ⟨zav,zhp V⟩:=z26 (g:=6) (t:=246) z85 (by kernel_rfl) (by kernel_rfl)
theorem zhf:SD 200 ba zcw:=sd zo0 zrv Tryz.f200 (fun V t=>by kernel_rfl) (fun V=>by kernel_rfl) (fun V hV=>(c1 (znw V) c0)) Tryz.func200
theorem zkr:SD 199 za4 zft:=sd cN zve Tryz.f199 (fun V t=>by kernel_rfl) (fun V=>by kernel_rfl) (fun V hV=>c0) Tryz.func199
theorem zgz:SD 193 kz zai:=sd zgq zih Tryz.f193 (fun V t=>by kernel_rfl) (fun V=>by kernel_rfl) (fun V hV=>(c1 (wd V hV) (c1 (zkr V hV) (c1 (zhf V hV) c0)))) Tryz.func193
theorem zet:SD 194 jo uw:=sd zeo zfu Tryz.f194 (fun V t=>by kernel_rfl) (fun V=>by kernel_rfl) (fun V hV=>(c1 (wd V hV) (c1 (zkr V hV) (c1 (zhf V hV) c0)))) Tryz.func194
theorem zjb:SD 184 vg gp:=sd zii zk7 Tryz.f184 (fun V t=>by kernel_rfl) (fun V=>by kernel_rfl) (fun V hV=>(c1 (zfe V hV) (c1 (zga V hV) (c1 (zgz V hV) (c1 (zet V hV) c0))))) Tryz.func184
theorem zlk:SD 169 uq ux:=sd zk8 zmx Tryz.f169 (fun V t=>by kernel_rfl) (fun V=>by kernel_rfl) (fun V hV=>(c1 (zkh V hV) (c1 (zjb V hV) c0))) Tryz.func169
theorem znx:SD 151 zaw bn:=sd znq zqa Tryz.f151 (fun V t=>by kernel_rfl) (fun V=>by kernel_rfl) (fun V hV=>(c1 (zlj V hV) (c1 (zlk V hV) c0))) Tryz.func151
theorem zm0:SD 170 bx zaj:=sd cN zo1 Tryz.f170 (fun V t=>by kernel_rfl) (fun V=>by kernel_rfl) (fun V hV=>c0) Tryz.func170
theorem zdh:SD 195 qq qe:=sd cN zd8 Tryz.f195 (fun V t=>by kernel_rfl) (fun V=>by kernel_rfl) (fun V hV=>c0) Tryz.func195
theorem zjc:SD 185 vh gq:=sd zij zk9 Tryz.f185 (fun V t=>by kernel_rfl) (fun V=>by kernel_rfl) (fun V hV=>(c1 (zdh V hV) c0)) Tryz.func185
theorem yk (V:Ev):zg Tryz.prog (env V []) 76 ⟨zo,zc V⟩:=
 zto (fun b w h0 h1 h2=>Any.Builder_copyCheck_fresh lays z6u b w h0 h1 h2) (fun b w h0=>Any.Builder_copyCheck_used lays z6u b w h0) ⟨.inl rfl, .inl rfl⟩ (fun t u h ren=>by cases h;rfl)
theorem zcj:SD 171 x7 xl:=sd zca zdb Tryz.f171 (fun V t=>by kernel_rfl) (fun V=>by kernel_rfl) (fun V hV=>(c1 (yk V) (c1 (zjc V hV) c0))) Tryz.func171
theorem yj:SD 45 zr zf:=sd cN zep Tryz.f45 (fun V t=>by kernel_rfl) (fun V=>by kernel_rfl) (fun V hV=>c0) Tryz.func45
theorem zvs:SD 152 zg9 zcx:=sd zvf zze Tryz.f152 (fun V t=>by kernel_rfl) (fun V=>by kernel_rfl) (fun V hV=>(c1 (yj V hV) (c1 (zm0 V hV) (c1 (zcj V hV) c0)))) Tryz.func152
theorem zqp:SD 135 zcy zd9:=sd zqb ztv Tryz.f135 (fun V t=>by kernel_rfl) (fun V=>by kernel_rfl) (fun V hV=>(c1 (zqo V hV) (c1 (zkg V hV) (c1 (znx V hV) (c1 (zvs V hV) c0))))) Tryz.func135
theorem zck:SD 113 x8 xm:=sd zcb zdc Tryz.f113 (fun V t=>by kernel_rfl) (fun V=>by kernel_rfl) (fun V hV=>(c1 (yk V) c0)) Tryz.func113
theorem w5:SD 43 y2 zh:=sd za5 zcc Tryz.f43 (fun V t=>by kernel_rfl) (fun V=>by kernel_rfl) (fun V hV=>(c1 (yk V) c0)) Tryz.func43
theorem ye:SD 43 zl za:=sd za6 zcd Tryz.f43 (fun V t=>by kernel_rfl) (fun V=>by kernel_rfl) (fun V hV=>(c1 (yk V) c0)) Tryz.func43
theorem zny:SD 112 zax za7:=sd znr zqc Tryz.f112 (fun V t=>by kernel_rfl) (fun V=>by kernel_rfl) (fun V hV=>(xg ((wg (w5 V hV) (wg (ye V hV) za1))) (c1 (yj V hV) (c1 (zck V hV) (c1 (gz V hV) (c1 (zi9 V hV) (c1 (zqp V hV) c0))))))) Tryz.func112
theorem xh:SD 111 yn zi:=sd cN zik Tryz.f111 (fun V t=>by kernel_rfl) (fun V=>by kernel_rfl) (fun V hV=>c0) Tryz.func111
theorem wh:SD 81 xb zz:=sd zeq zfv Tryz.f81 (fun V t=>by kernel_rfl) (fun V=>by kernel_rfl) (fun V hV=>(c1 (xh V hV) (c1 (zny V hV) c0))) Tryz.func81
theorem zh0:SD 128 wu wj:=sd zhq zj4 Tryz.f128 (fun V t=>by kernel_rfl) (fun V=>by kernel_rfl) (fun V hV=>(c1 (ql V hV) (c1 (wh V hV) (c1 (vn V hV) (c1 (xh V hV) (c1 (zi8 V hV) (c1 (vu V hV) c0))))))) Tryz.func128
theorem zh1:SD 142 wv jt:=sd zhr zj5 Tryz.f142 (fun V t=>by kernel_rfl) (fun V=>by kernel_rfl) (fun V hV=>(c1 (vu V hV) (c1 (gz V hV) c0))) Tryz.func142
theorem zjd:SD 78 vi gr:=sd zil zla Tryz.f78 (fun V t=>by kernel_rfl) (fun V=>by kernel_rfl) (fun V hV=>(c1 (zh1 V hV) c0)) Tryz.func78
theorem zff:SD 144 j8 ww:=sd cN zgr Tryz.f144 (fun V t=>by kernel_rfl) (fun V=>by kernel_rfl) (fun V hV=>c0) Tryz.func144
theorem gd:SD 101 yq y6:=sd u7 bc Tryz.f101 (fun V t=>by kernel_rfl) (fun V=>by kernel_rfl) (fun V hV=>(c1 (zff V hV) c0)) Tryz.func101
theorem uj:SD 143 yo yb:=sd ui uy Tryz.f143 (fun V t=>by kernel_rfl) (fun V=>by kernel_rfl) (fun V hV=>(c1 (gd V hV) c0)) Tryz.func143
theorem zg0:SD 157 k7 jh:=sd zgs zim Tryz.f157 (fun V t=>by kernel_rfl) (fun V=>by kernel_rfl) (fun V hV=>(c1 (vu V hV) c0)) Tryz.func157
theorem zje:SD 78 vj jc:=sd zin zlb Tryz.f78 (fun V t=>by kernel_rfl) (fun V=>by kernel_rfl) (fun V hV=>(c1 (vu V hV) c0)) Tryz.func78
theorem zb6:SD 131 kb jd:=sd zio zlc Tryz.f131 (fun V t=>by kernel_rfl) (fun V=>by kernel_rfl) (fun V hV=>(c1 (wc V hV) (c1 (zi9 V hV) c0))) Tryz.func131
theorem zjf:SD 78 vk gt:=sd ziq zld Tryz.f78 (fun V t=>by kernel_rfl) (fun V=>by kernel_rfl) (fun V hV=>(c1 (zg0 V hV) c0)) Tryz.func78
theorem zgb:SD 145 km qu:=sd zfw zhs Tryz.f145 (fun V t=>by kernel_rfl) (fun V=>by kernel_rfl) (fun V hV=>(c1 (zjf V hV) (c1 (wh V hV) (c1 (wc V hV) (c1 (vn V hV) (c1 (zb6 V hV) c0)))))) Tryz.func145
theorem zg1:SD 129 k8 kw:=sd zgt zis Tryz.f129 (fun V t=>by kernel_rfl) (fun V=>by kernel_rfl) (fun V hV=>(xg ((wg (zjd V hV) (wg (zje V hV) za1))) (c1 (vn V hV) (c1 (xh V hV) (c1 (zes V hV) (c1 (uj V hV) (c1 (zgb V hV) c0))))))) Tryz.func129
theorem zh2:SD 108 wx ju:=sd zht zj6 Tryz.f108 (fun V t=>by kernel_rfl) (fun V=>by kernel_rfl) (fun V hV=>(c1 (zi7 V hV) (c1 (ql V hV) (c1 (xh V hV) (c1 (zes V hV) (c1 (vu V hV) (c1 (zuc V hV) (c1 (zh0 V hV) (c1 (zg1 V hV) c0))))))))) Tryz.func108
theorem zpd (V:Ev):zg Tryz.prog (env V []) 146 ⟨zbn,zj7 V⟩:=z25 z84 (by kernel_rfl)
theorem zue:SD 132 ze3 zit:=sd ztw zxs Tryz.f132 (fun V t=>by kernel_rfl) (fun V=>by kernel_rfl) (fun V hV=>(c1 (zpd V) c0)) Tryz.func132
theorem zg2:SD 110 k9 qf:=sd zgu ziu Tryz.f110 (fun V t=>by kernel_rfl) (fun V=>by kernel_rfl) (fun V hV=>(c1 (ql V hV) (c1 (xh V hV) (c1 (zb6 V hV) (c1 (zue V hV) c0))))) Tryz.func110
theorem zg3:SD 77 wa kx:=sd zgv ziv Tryz.f77 (fun V t=>by kernel_rfl) (fun V=>by kernel_rfl) (fun V hV=>(c1 (ql V hV) (c1 (wc V hV) (c1 (zpb V hV) (c1 (zh2 V hV) (c1 (vn V hV) (c1 (zg2 V hV) (c1 (xh V hV) c0)))))))) Tryz.func77
theorem zm1:SD 79 b8 zcz:=sd cN zo2 Tryz.f79 (fun V t=>by kernel_rfl) (fun V=>by kernel_rfl) (fun V hV=>c0) Tryz.func79
theorem zjg:SD 78 vl gu:=sd ziw zle Tryz.f78 (fun V t=>by kernel_rfl) (fun V=>by kernel_rfl) (fun V hV=>(c1 (zm1 V hV) c0)) Tryz.func78
theorem zhg:SD 47 bd gw:=sd zo3 zrw Tryz.f47 (fun V t=>by kernel_rfl) (fun V=>by kernel_rfl) (fun V hV=>(c1 (zg3 V hV) (c1 (zjg V hV) (c1 (ql V hV) (c1 (wh V hV) c0))))) Tryz.func47
theorem zxy:SD 48 zj8 zsj:=sd cN z0l Tryz.f48 (fun V t=>by kernel_rfl) (fun V=>by kernel_rfl) (fun V hV=>c0) Tryz.func48
theorem zpe:SD 66 zfx zj9:=sd cN z0m Tryz.f66 (fun V t=>by kernel_rfl) (fun V=>by kernel_rfl) (fun V hV=>c0) Tryz.func66
theorem zl2:SD 67 zc0 zb0:=sd cN zxt Tryz.f67 (fun V t=>by kernel_rfl) (fun V=>by kernel_rfl) (fun V hV=>c0) Tryz.func67
theorem zap:SD 33 uf w7:=sd ztx zxu Tryz.f33 (fun V t=>by kernel_rfl) (fun V=>by kernel_rfl) (fun V hV=>(c1 (zpe V hV) (c1 (zl2 V hV) c0))) Tryz.func33
theorem wm:SD 51 yy yd:=sd cN zbq Tryz.f51 (fun V t=>by kernel_rfl) (fun V=>by kernel_rfl) (fun V hV=>c0) Tryz.func51
theorem qo:SD 52 yh zp:=sd cN zbr Tryz.f52 (fun V t=>by kernel_rfl) (fun V=>by kernel_rfl) (fun V hV=>c0) Tryz.func52
theorem zaq:SD 53 qw xy:=sd cN zhu Tryz.f53 (fun V t=>by kernel_rfl) (fun V=>by kernel_rfl) (fun V hV=>c0) Tryz.func53
theorem w6:SD 54 y3 yi:=sd cN zce Tryz.f54 (fun V t=>by kernel_rfl) (fun V=>by kernel_rfl) (fun V hV=>c0) Tryz.func54
theorem zgc:SD 55 kn kc:=sd cN zhv Tryz.f55 (fun V t=>by kernel_rfl) (fun V=>by kernel_rfl) (fun V hV=>c0) Tryz.func55
theorem zks:SD 153 za8 zbs:=sd zrx zvg Tryz.f153 (fun V t=>by kernel_rfl) (fun V=>by kernel_rfl) (fun V hV=>(c1 (wm V hV) (c1 (qo V hV) (c1 (zaq V hV) c0)))) Tryz.func153
theorem zvt:SD 136 zha zix:=sd zvh zzf Tryz.f136 (fun V t=>by kernel_rfl) (fun V=>by kernel_rfl) (fun V hV=>(c1 (zap V hV) (c1 (qo V hV) (c1 (zpe V hV) (c1 (zks V hV) c0))))) Tryz.func136
theorem zbx:SD 138 xz xd:=sd cN zc1 Tryz.f138 (fun V t=>by kernel_rfl) (fun V=>by kernel_rfl) (fun V hV=>c0) Tryz.func138
theorem zgd:SD 69 zay bo:=sd zty zxv Tryz.f69 (fun V t=>by kernel_rfl) (fun V=>by kernel_rfl) (fun V hV=>(c1 (zap V hV) c0)) Tryz.func69
theorem zvu:SD 155 zhb be:=sd cN zzg Tryz.f155 (fun V t=>by kernel_rfl) (fun V=>by kernel_rfl) (fun V hV=>c0) Tryz.func155
theorem zh3:SD 154 wy y9:=sd cN zka Tryz.f154 (fun V t=>by kernel_rfl) (fun V=>by kernel_rfl) (fun V hV=>c0) Tryz.func154
theorem zjh:SD 71 zak zb1:=sd cN ztz Tryz.f71 (fun V t=>by kernel_rfl) (fun V=>by kernel_rfl) (fun V hV=>c0) Tryz.func71
theorem zpf (V:Ev) (hV:V.OK) (Y:(yr).In→Option (yr).Out) (self:(zu).In→Option (zu).Out) (h:zg Tryz.prog (envI V [] [] (some ⟨yr,Y⟩)) 100 ⟨zu,self⟩):zg Tryz.prog (envI V [] [] (some ⟨yr,Y⟩)) 100 ⟨zu,ze4 V Y self⟩:=by
 rw [←zt1 V Y self]
 exact zd6 (E2:=(envI V [] [] (some ⟨yr,Y⟩))) (zzj V hV (ziy V Y self) [] (some ⟨yr,Y⟩) (by kernel_rfl) (by kernel_rfl) (xg ((wg h za1)) c0) zlu) rfl rfl rfl (.inr ⟨rfl,_,rfl⟩) Tryz.func100
theorem zhh (V:Ev) (hV:V.OK) (Y:(yr).In→Option (yr).Out):∀m,zg Tryz.prog (envI V [] [] (some ⟨yr,Y⟩)) 100 ⟨zu,zaz V Y m⟩
 | 0=>zg.none
 | m+1=>zpf V hV Y _ (zhh V hV Y m)
theorem zqq (V:Ev) (hV:V.OK) (Y:(yr).In→Option (yr).Out):zg Tryz.prog (envI V [] [] (some ⟨yr,Y⟩)) 100 ⟨zu,zhc V Y⟩:=zg.rc hV (zhh V hV Y)
theorem znz (V:Ev) (hV:V.OK) (Y:(yr).In→Option (yr).Out):zg Tryz.prog (envI V [] [] (some ⟨yr,Y⟩)) 99 ⟨uz,za9 V Y⟩:=by
 rw [←zqe V Y]
 exact zd6 (E2:=(envI V [] [] (some ⟨yr,Y⟩))) (zzj V hV (zfy V Y) [] (some ⟨yr,Y⟩) (by kernel_rfl) (by kernel_rfl) (xg ((wg (zqq V hV Y) za1)) c0) zlu) rfl rfl rfl (.inr ⟨rfl,_,rfl⟩) Tryz.func99
theorem zhi:SD 173 bf gx:=sd cN zry Tryz.f173 (fun V t=>by kernel_rfl) (fun V=>by kernel_rfl) (fun V hV=>c0) Tryz.func173
theorem zcl:SD 186 x9 xn:=sd zcf zdd Tryz.f186 (fun V t=>by kernel_rfl) (fun V=>by kernel_rfl) (fun V hV=>(c1 (zhi V hV) c0)) Tryz.func186
theorem zby:SD 172 x5 xe:=sd zbt zc2 Tryz.f172 (fun V t=>by kernel_rfl) (fun V=>by kernel_rfl) (fun V hV=>(c1 (zhi V hV) (c1 (zcl V hV) c0))) Tryz.func172
theorem zr4:SD 156 zdv zfz:=sd zrz zvi Tryz.f156 (fun V t=>by kernel_rfl) (fun V=>by kernel_rfl) (fun V hV=>(c1 (zby V hV) c0)) Tryz.func156
theorem zxz (V:Ev) (hV:V.OK):zg Tryz.prog (env V []) 137 ⟨zf0,zmq V⟩:=by
 rw [←z0o V]
 exact zd6 (E2:=(env V [])) (zzj V hV (zo4 V) (zt2 V) none (by kernel_rfl) (by kernel_rfl) (xg ((wg (zap V hV) za1)) (xg ((wg (zl2 V hV) za1)) (xg ((wg (zgd V hV) za1)) (xg ((wg (zjh V hV) za1)) (xg ((wg (zks V hV) za1)) (xg ((wg (zh3 V hV) za1)) (xg ((wg (zvu V hV) za1)) (xg ((wg (zr4 V hV) za1)) c0)))))))) (z1y (z1x (znz V hV) z4o) zlu)) rfl rfl rfl (.inl rfl) Tryz.func137
theorem vp:SD 115 x6 y7:=sd zgw zi0 Tryz.f115 (fun V t=>by kernel_rfl) (fun V=>by kernel_rfl) (fun V hV=>(c1 (zvt V hV) (c1 (zxz V hV) (c1 (zbx V hV) c0)))) Tryz.func115
theorem zge:SD 85 ko kd:=sd zf1 zhw Tryz.f85 (fun V t=>by kernel_rfl) (fun V=>by kernel_rfl) (fun V hV=>(c1 (vp V hV) c0)) Tryz.func85
theorem zed:SD 86 jj qx:=sd zea ze5 Tryz.f86 (fun V t=>by kernel_rfl) (fun V=>by kernel_rfl) (fun V hV=>(c1 (vp V hV) c0)) Tryz.func86
theorem zkt:SD 29 zba zbu:=sd cN zvj Tryz.f29 (fun V t=>by kernel_rfl) (fun V=>by kernel_rfl) (fun V hV=>c0) Tryz.func29
theorem vb:SD 56 xq yp:=sd cN zhx Tryz.f56 (fun V t=>by kernel_rfl) (fun V=>by kernel_rfl) (fun V hV=>c0) Tryz.func56
theorem zfg:SD 87 j9 jp:=sd ze6 zgx Tryz.f87 (fun V t=>by kernel_rfl) (fun V=>by kernel_rfl) (fun V hV=>(c1 (zkt V hV) (c1 (w6 V hV) (c1 (vb V hV) (c1 (vp V hV) c0))))) Tryz.func87
theorem zbf:SD 116 xo qi:=sd cN zcg Tryz.f116 (fun V t=>by kernel_rfl) (fun V=>by kernel_rfl) (fun V hV=>c0) Tryz.func116
theorem zg4:SD 88 wb ky:=sd zgy zi1 Tryz.f88 (fun V t=>by kernel_rfl) (fun V=>by kernel_rfl) (fun V hV=>(c1 (vb V hV) (c1 (zbf V hV) c0))) Tryz.func88
theorem zr5:SD 21 zdw zf2:=sd zr0 zvk Tryz.f21 (fun V t=>by kernel_rfl) (fun V=>by kernel_rfl) (fun V hV=>(c1 (zap V hV) (c1 (wm V hV) (c1 (qo V hV) (c1 (zaq V hV) (c1 (w6 V hV) (c1 (zgc V hV) (c1 (vb V hV) (c1 (zge V hV) (c1 (zed V hV) (c1 (zfg V hV) (c1 (zg4 V hV) c0)))))))))))) Tryz.func21
theorem zku:SD 16 zbb zal:=sd zr1 zvl Tryz.f16 (fun V t=>by kernel_rfl) (fun V=>by kernel_rfl) (fun V hV=>(c1 (zr5 V hV) (c1 (zxy V hV) c0))) Tryz.func16
theorem zm2:SD 39 b9 zf3:=sd zmy zo5 Tryz.f39 (fun V t=>by kernel_rfl) (fun V=>by kernel_rfl) (fun V hV=>(c1 (zku V hV) (c1 (zhg V hV) c0))) Tryz.func39
theorem zm3:SD 102 zaa zf4:=sd cN zo6 Tryz.f102 (fun V t=>by kernel_rfl) (fun V=>by kernel_rfl) (fun V hV=>c0) Tryz.func102
theorem ge:SD 101 yu qg:=sd ga bg Tryz.f101 (fun V t=>by kernel_rfl) (fun V=>by kernel_rfl) (fun V hV=>(c1 (zm3 V hV) c0)) Tryz.func101
theorem zuf:SD 72 ze7 zqf:=sd zt3 zxw Tryz.f72 (fun V t=>by kernel_rfl) (fun V=>by kernel_rfl) (fun V hV=>(c1 (ge V hV) c0)) Tryz.func72
theorem zvv:SD 40 zhd zt4:=sd zvm zzh Tryz.f40 (fun V t=>by kernel_rfl) (fun V=>by kernel_rfl) (fun V hV=>(c1 (zgd V hV) (c1 (zuf V hV) c0))) Tryz.func40
theorem zpg (V:Ev) (hV:V.OK) (Y:(yv).In→Option (yv).Out) (self:(zw).In→Option (zw).Out) (h:zg Tryz.prog (envI V [] [] (some ⟨yv,Y⟩)) 100 ⟨zw,self⟩):zg Tryz.prog (envI V [] [] (some ⟨yv,Y⟩)) 100 ⟨zw,zkb V Y self⟩:=by
 rw [←zt6 V Y self]
 exact zd6 (E2:=(envI V [] [] (some ⟨yv,Y⟩))) (zzj V hV (zi2 V Y self) [] (some ⟨yv,Y⟩) (by kernel_rfl) (by kernel_rfl) (xg ((wg h za1)) c0) zlu) rfl rfl rfl (.inr ⟨rfl,_,rfl⟩) Tryz.func100
theorem zhj (V:Ev) (hV:V.OK) (Y:(yv).In→Option (yv).Out):∀m,zg Tryz.prog (envI V [] [] (some ⟨yv,Y⟩)) 100 ⟨zw,zkc V Y m⟩
 | 0=>zg.none
 | m+1=>zpg V hV Y _ (zhj V hV Y m)
theorem zqr (V:Ev) (hV:V.OK) (Y:(yv).In→Option (yv).Out):zg Tryz.prog (envI V [] [] (some ⟨yv,Y⟩)) 100 ⟨zw,zlz V Y⟩:=zg.rc hV (zhj V hV Y)
theorem zn0 (V:Ev) (hV:V.OK) (Y:(yv).In→Option (yv).Out):zg Tryz.prog (envI V [] [] (some ⟨yv,Y⟩)) 99 ⟨u5,zdx V Y⟩:=by
 rw [←zqh V Y]
 exact zd6 (E2:=(envI V [] [] (some ⟨yv,Y⟩))) (zzj V hV (zf5 V Y) [] (some ⟨yv,Y⟩) (by kernel_rfl) (by kernel_rfl) (xg ((wg (zqr V hV Y) za1)) c0) zlu) rfl rfl rfl (.inr ⟨rfl,_,rfl⟩) Tryz.func99
theorem zcm (V:Ev) (hV:V.OK):zg Tryz.prog (env V []) 98 ⟨y8,qz V⟩:=by
 rw [←zdf V]
 exact zd6 (E2:=(env V [])) (zzj V hV (vo V) (uk V) none (by kernel_rfl) (by kernel_rfl) c0 (z1y (z1x (zn0 V hV) z4o) zlu)) rfl rfl rfl (.inl rfl) Tryz.func98
theorem zgf:SD 70 kp bu:=sd zf6 zhy Tryz.f70 (fun V t=>by kernel_rfl) (fun V=>by kernel_rfl) (fun V hV=>(c1 (zcm V hV) c0)) Tryz.func70
theorem zug:SD 37 ze8 zqi:=sd zt7 zxx Tryz.f37 (fun V t=>by kernel_rfl) (fun V=>by kernel_rfl) (fun V hV=>(c1 (zgd V hV) (c1 (zgf V hV) (c1 (zjh V hV) c0)))) Tryz.func37
theorem zvw:SD 38 zhe zt8:=sd zvn zzi Tryz.f38 (fun V t=>by kernel_rfl) (fun V=>by kernel_rfl) (fun V hV=>(c1 (zug V hV) (c1 (ye V hV) (c1 (yj V hV) c0)))) Tryz.func38
theorem zm4:SD 11 zab zam:=sd zmz zo7 Tryz.f11 (fun V t=>by kernel_rfl) (fun V=>by kernel_rfl) (fun V hV=>(c1 (zvw V hV) (c1 (zm2 V hV) (c1 (zvv V hV) c0)))) Tryz.func11
theorem zr6:SD 41 zdy zns:=sd cN zvo Tryz.f41 (fun V t=>by kernel_rfl) (fun V=>by kernel_rfl) (fun V hV=>c0) Tryz.func41
theorem zji:SD 12 zan zb2:=sd zqj zt9 Tryz.f12 (fun V t=>by kernel_rfl) (fun V=>by kernel_rfl) (fun V hV=>(c1 (zr6 V hV) c0)) Tryz.func12
theorem zm5:SD 73 zac zao:=sd cN zo8 Tryz.f73 (fun V t=>by kernel_rfl) (fun V=>by kernel_rfl) (fun V hV=>c0) Tryz.func73
theorem zn1:SD 74 za0 zbc:=sd cN zqk Tryz.f74 (fun V t=>by kernel_rfl) (fun V=>by kernel_rfl) (fun V hV=>c0) Tryz.func74
theorem zh4:SD 123 wz wl:=sd cN zkd Tryz.f123 (fun V t=>by kernel_rfl) (fun V=>by kernel_rfl) (fun V hV=>c0) Tryz.func123
theorem zl3:SD 103 gy bh:=sd zl0 znt Tryz.f103 (fun V t=>by kernel_rfl) (fun V=>by kernel_rfl) (fun V hV=>(c1 (zh4 V hV) c0)) Tryz.func103
theorem zee:SD 104 jk xt:=sd zec ze9 Tryz.f104 (fun V t=>by kernel_rfl) (fun V=>by kernel_rfl) (fun V hV=>(c1 (yk V) c0)) Tryz.func104
theorem zkv:SD 75 zbd zbv:=sd zr2 zvp Tryz.f75 (fun V t=>by kernel_rfl) (fun V=>by kernel_rfl) (fun V hV=>(c1 (ye V hV) (c1 (yj V hV) (c1 (zl3 V hV) (c1 (zee V hV) c0))))) Tryz.func75
theorem zjj:SD 42 vm je:=sd zi3 zlf Tryz.f42 (fun V t=>by kernel_rfl) (fun V=>by kernel_rfl) (fun V hV=>(c1 (zm5 V hV) (c1 (zn1 V hV) (c1 (zkv V hV) c0)))) Tryz.func42
theorem zcn (V:Ev):zg Tryz.prog (env V []) 76 ⟨qa,ja V⟩:=
 zp7 (n:=4) (fun b w h0 h1 h2=>z27 lays z6u b 1 w (by decide) (by kernel_rfl) h0 h1 h2) (fun b w h0=>z4u lays z6u b 1 w h0) (fun t=>⟨rfl,_,rfl, .inl rfl⟩) (fun t u h=>by cases h;exact⟨rfl,rfl⟩)
theorem zbg:SD 43 xp xc:=sd zbe zch Tryz.f43 (fun V t=>by kernel_rfl) (fun V=>by kernel_rfl) (fun V hV=>(c1 (zcn V) c0)) Tryz.func43
theorem zbh:SD 13 jr y1:=sd zhz zke Tryz.f13 (fun V t=>by kernel_rfl) (fun V=>by kernel_rfl) (fun V hV=>(c1 (zjj V hV) (c1 (zbg V hV) c0))) Tryz.func13
theorem zki:SD 44 ug uh:=sd zkf zl1 Tryz.f44 (fun V t=>by kernel_rfl) (fun V=>by kernel_rfl) (fun V hV=>(c1 (zkv V hV) c0)) Tryz.func44
theorem zdr:SD 45 jb qk:=sd cN zer Tryz.f45 (fun V t=>by kernel_rfl) (fun V=>by kernel_rfl) (fun V hV=>c0) Tryz.func45
theorem zef:SD 46 jl kq:=sd cN zfa Tryz.f46 (fun V t=>by kernel_rfl) (fun V=>by kernel_rfl) (fun V hV=>c0) Tryz.func46
theorem zb7:SD 14 ke jf:=sd zi4 zlg Tryz.f14 (fun V t=>by kernel_rfl) (fun V=>by kernel_rfl) (fun V hV=>(c1 (zki V hV) (c1 (zdr V hV) (c1 (zef V hV) (c1 (zhg V hV) c0))))) Tryz.func14
theorem zr7:SD 15 zdz zf7:=sd zr3 zvq Tryz.f15 (fun V t=>by kernel_rfl) (fun V=>by kernel_rfl) (fun V hV=>(c1 (zji V hV) (c1 (zbh V hV) (c1 (zb7 V hV) c0)))) Tryz.func15
theorem zr8:SD 82 zd0 zf8:=sd cN zvr Tryz.f82 (fun V t=>by kernel_rfl) (fun V=>by kernel_rfl) (fun V hV=>c0) Tryz.func82
theorem zco:SD 113 qc y5:=sd zci zdg Tryz.f113 (fun V t=>by kernel_rfl) (fun V=>by kernel_rfl) (fun V hV=>(c1 (yk V) c0)) Tryz.func113
theorem zgg:SD 83 u6 kr:=sd znu zql Tryz.f83 (fun V t=>by kernel_rfl) (fun V=>by kernel_rfl) (fun V hV=>(c1 (ye V hV) (c1 (yj V hV) (c1 (zco V hV) c0)))) Tryz.func83
theorem zqs:SD 84 zc3 zb3:=sd zqm zua Tryz.f84 (fun V t=>by kernel_rfl) (fun V=>by kernel_rfl) (fun V hV=>(xg ((wg (w5 V hV) (wg (ye V hV) za1))) (c1 (yj V hV) (c1 (zgg V hV) (c1 (zi8 V hV) c0))))) Tryz.func84
theorem zl4 (V:Ev) (hV:V.OK) (self:(zk).In→Option (zk).Out) (h:zg Tryz.prog (env V []) 49 ⟨zk,self⟩):zg Tryz.prog (env V []) 49 ⟨zk,zbo V self⟩:=by
 rw [←zpa V self]
 exact zd6 (E2:=(env V [])) (zzj V hV (zeu V self) [] none (by kernel_rfl) (by kernel_rfl) (xg ((wg (zkt V hV) za1)) (xg ((wg (ye V hV) za1)) (xg ((wg h za1)) (xg ((wg (zr8 V hV) za1)) (xg ((wg (zgg V hV) za1)) (xg ((wg (zqs V hV) za1)) c0)))))) zlu) rfl rfl rfl (.inl rfl) Tryz.func49
theorem zeg (V:Ev) (hV:V.OK):∀m,zg Tryz.prog (env V []) 49 ⟨zk,vr V m⟩
 | 0=>zg.none
 | m+1=>zl4 V hV _ (zeg V hV m)
theorem zm6 (V:Ev) (hV:V.OK):zg Tryz.prog (env V []) 49 ⟨zk,zc4 V⟩:=zg.rc hV (zeg V hV)
theorem zqt:SD 17 zc5 zb4:=sd zqn zub Tryz.f17 (fun V t=>by kernel_rfl) (fun V=>by kernel_rfl) (fun V hV=>(c1 (zap V hV) (c1 (yj V hV) (c1 (zm6 V hV) c0)))) Tryz.func17
theorem soundpouncetop_TopParts_:SD 3 bv zbw:=sd zi5 zlh Tryz.f3 (fun V t=>by kernel_rfl) (fun V=>by kernel_rfl) (fun V hV=>(c1 (zm4 V hV) (c1 (zji V hV) (c1 (zbh V hV) (c1 (zb7 V hV) (c1 (zr7 V hV) (c1 (zku V hV) (c1 (zqt V hV) c0)))))))) Tryz.func3
end Go.En.Pl
