/- Text S of this seat: written by a program of ours, or by hand; checked by Lean. -/
import Derived.Test.YtljnjjnjdanajaaGreatDoorG
import Derived.Test.YtljnjjnjdanajaaGreatDoorLay
set_option linter.unusedVariables false
namespace Go.En.Pl
open Go.Proofs
theorem z82 : ∀ t, eqs.contains t = true → EqTy Tryz.prog t :=
 (z05 ⟨by kernel_rfl, by kernel_rfl, by kernel_rfl, by kernel_rfl⟩ (z05 ⟨by kernel_rfl, by kernel_rfl, by kernel_rfl, by kernel_rfl⟩ (z05 ⟨by kernel_rfl, by kernel_rfl, by kernel_rfl, by kernel_rfl⟩ z7r)))
theorem z8m : ∀ f x, exts.lookup f = some x → z4t Tryz.prog f x :=
 (z6a (z06 Tryz.func165 (by kernel_rfl) (by kernel_rfl) (by kernel_rfl) (by kernel_rfl)) z63)
theorem z2k (V : Ev) (hV : V.OK) (l : List (FuncId × List zia)) (il : List (FuncId × List zts)) (y : Option zia) (h1 : l.all (fun p => zya Tryz.prog p.1) = true) (h1i : il.all (fun p => zya Tryz.prog p.1) = true) (h2 : ∀ g s, s ∈ ((l.lookup g).getD []) → zr Tryz.prog (envI V [] [] y) g s) (h3 : ∀ f I, I ∈ ((il.lookup f).getD []) → zud Tryz.prog (env V []) f I) : zvf Tryz.prog (envI V l il y) where
 types := xn.of_tab rfl (z81 V l il y) z82
 calls := fun g s hs => (h2 g s hs).env rfl rfl rfl (.inr rfl)
 mixed := by kernel_rfl
 ext := fun f h => z8m f _ h rfl
 it := hV.it
 lp0 := rfl
 its := fun f I hI Y => (h3 f I hI Y).env rfl rfl rfl (.inr rfl)
 enters := fun g h => h.elim (zue h1 g) (zue h1i g)

abbrev SD (n : Nat) (s : Sig) (g : Ev → s.In → Option s.Out) : Prop := ∀ V : Ev, V.OK → zr Tryz.prog (env V []) n ⟨s, g V⟩
theorem sd {n : Nat} {s : Sig} {g : Ev → s.In → Option s.Out} (c : Ev → Cl) (a : Ann) (fn : Func) (h : ∀ V t, aFn (envI V (c V) [] none) fn s a t = g V t) (h1 : ∀ V, (c V).all (fun p => zya Tryz.prog p.1) = true) (h2 : ∀ V : Ev, V.OK → ∀ g s, s ∈ (((c V).lookup g).getD []) → zr Tryz.prog (envI V [] [] none) g s) (hf : Tryz.prog.funcs[n]? = some fn) : SD n s g := by
 intro V hV
 have e : aFn (envI V (c V) [] none) fn s a = g V := funext (h V)
 rw [← e]
 exact zhu (E2 := (env V [])) (z2k V hV (c V) [] none (h1 V) rfl (h2 V hV) zqg) rfl rfl rfl (.inl rfl) hf
theorem c1 {k : FuncId} {E : Env} {s1 : zia} {l : Cl} (h1 : zr Tryz.prog E k s1) (h2 : ∀ g s, s ∈ ((l.lookup g).getD []) → zr Tryz.prog E g s) : ∀ g s, s ∈ ((((k, [s1]) :: l).lookup g).getD []) → zr Tryz.prog E g s := jl (gz h1 zeu) h2
theorem c0 {E : Env} : ∀ g s, s ∈ ((([] : Cl).lookup g).getD []) → zr Tryz.prog E g s := z58 rfl
theorem gw : SD 106 j9 jn := sd cN zpf Tryz.f106 (fun V t => by kernel_rfl) (fun V => by kernel_rfl) (fun V hV => c0) Tryz.func106
theorem zup : SD 107 zfa ziu := sd cN zwt Tryz.f107 (fun V t => by kernel_rfl) (fun V => by kernel_rfl) (fun V hV => c0) Tryz.func107
theorem zi7 : SD 147 uc zco := sd cN zky Tryz.f147 (fun V t => by kernel_rfl) (fun V => by kernel_rfl) (fun V hV => c0) Tryz.func147
theorem zc6 : SD 133 wz vk := sd zof zqh Tryz.f133 (fun V t => by kernel_rfl) (fun V => by kernel_rfl) (fun V hV => (c1 (zi7 V hV) c0)) Tryz.func133
theorem zuq : SD 141 zfb zog := sd zuf zwu Tryz.f141 (fun V t => by kernel_rfl) (fun V => by kernel_rfl) (fun V hV => (c1 (zc6 V hV) c0)) Tryz.func141
theorem za8 : SD 126 ur ul := sd zwv zzg Tryz.f126 (fun V t => by kernel_rfl) (fun V => by kernel_rfl) (fun V hV => (c1 (zuq V hV) c0)) Tryz.func126
theorem zng : SD 125 zaq zff := sd zmr zpg Tryz.f125 (fun V t => by kernel_rfl) (fun V => by kernel_rfl) (fun V hV => (c1 (za8 V hV) c0)) Tryz.func125
theorem znh : SD 78 zar zfg := sd zms zph Tryz.f78 (fun V t => by kernel_rfl) (fun V => by kernel_rfl) (fun V hV => (c1 (zng V hV) c0)) Tryz.func78
theorem zik : SD 124 zdq zcp := sd cN zzh Tryz.f124 (fun V t => by kernel_rfl) (fun V => by kernel_rfl) (fun V hV => c0) Tryz.func124
theorem wc : SD 80 qk xq := sd cN zmt Tryz.f80 (fun V t => by kernel_rfl) (fun V => by kernel_rfl) (fun V hV => c0) Tryz.func80
theorem zyw : SD 127 ziv zvg := sd cN z08 Tryz.f127 (fun V t => by kernel_rfl) (fun V => by kernel_rfl) (fun V hV => c0) Tryz.func127
theorem zyx : SD 130 ziw zvh := sd zyf z09 Tryz.f130 (fun V t => by kernel_rfl) (fun V => by kernel_rfl) (fun V hV => (c1 (zik V hV) c0)) Tryz.func130
theorem za0 : SD 109 wg je := sd zpi zr9 Tryz.f109 (fun V t => by kernel_rfl) (fun V => by kernel_rfl) (fun V hV => (c1 (gw V hV) (c1 (zyx V hV) c0))) Tryz.func109
theorem zni : SD 114 zd3 zhv := sd cN zyg Tryz.f114 (fun V t => by kernel_rfl) (fun V => by kernel_rfl) (fun V hV => c0) Tryz.func114
theorem zfu (V : Ev) : zr Tryz.prog (env V []) 166 ⟨uj, zae V⟩ := z27 z65 rfl
theorem zp3 : SD 148 zb0 zhe := sd zpj zsa Tryz.f148 (fun V t => by kernel_rfl) (fun V => by kernel_rfl) (fun V hV => (c1 (zfu V) c0)) Tryz.func148
theorem znj : SD 134 zd4 zhw := sd zvi zyh Tryz.f134 (fun V t => by kernel_rfl) (fun V => by kernel_rfl) (fun V hV => (c1 (zp3 V hV) c0)) Tryz.func134
theorem zvv : SD 149 zgc zqi := sd cN zyi Tryz.f149 (fun V t => by kernel_rfl) (fun V => by kernel_rfl) (fun V hV => c0) Tryz.func149
theorem zi8 : SD 181 ud zcq := sd cN zkz Tryz.f181 (fun V t => by kernel_rfl) (fun V => by kernel_rfl) (fun V hV => c0) Tryz.func181
theorem zi9 : SD 167 ue zcr := sd zix zk0 Tryz.f167 (fun V t => by kernel_rfl) (fun V => by kernel_rfl) (fun V hV => (c1 (zi8 V hV) c0)) Tryz.func167
theorem zox : SD 150 zbb zgd := sd zoh zqj Tryz.f150 (fun V t => by kernel_rfl) (fun V => by kernel_rfl) (fun V hV => (c1 (zi9 V hV) c0)) Tryz.func150
theorem ztj : SD 182 zeo zlz := sd zs3 zvj Tryz.f182 (fun V t => by kernel_rfl) (fun V => by kernel_rfl) (fun V hV => (c1 (zfu V) c0)) Tryz.func182
theorem zp4 : SD 168 zb1 zhf := sd zpk zsb Tryz.f168 (fun V t => by kernel_rfl) (fun V => by kernel_rfl) (fun V hV => (c1 (ztj V hV) c0)) Tryz.func168
theorem zir : SD 196 zbc xt := sd cN zug Tryz.f196 (fun V t => by kernel_rfl) (fun V => by kernel_rfl) (fun V hV => c0) Tryz.func196
theorem zj6 : SD 197 ut zdu := sd zjl zl0 Tryz.f197 (fun V t => by kernel_rfl) (fun V => by kernel_rfl) (fun V hV => (c1 (zir V hV) c0)) Tryz.func197
theorem znk : SD 190 zas zfh := sd zmu zpl Tryz.f190 (fun V t => by kernel_rfl) (fun V => by kernel_rfl) (fun V hV => (c1 (zir V hV) (c1 (zj6 V hV) c0))) Tryz.func190
theorem zoy : SD 183 zbd zge := sd zoi zqk Tryz.f183 (fun V t => by kernel_rfl) (fun V => by kernel_rfl) (fun V hV => (c1 (znk V hV) c0)) Tryz.func183
theorem gx : SD 198 ka jo := sd cN zpm Tryz.f198 (fun V t => by kernel_rfl) (fun V => by kernel_rfl) (fun V hV => c0) Tryz.func198
theorem zja : SD 191 uf zcs := sd ziy zk1 Tryz.f191 (fun V t => by kernel_rfl) (fun V => by kernel_rfl) (fun V hV => (c1 (gx V hV) c0)) Tryz.func191
theorem zj7 : SD 192 uu zdv := sd zjm zl1 Tryz.f192 (fun V t => by kernel_rfl) (fun V => by kernel_rfl) (fun V hV => (c1 (gx V hV) c0)) Tryz.func192
theorem ztk (V : Ev) : zr Tryz.prog (env V []) 201 ⟨zep, zl2 V⟩ := z4y (g := 6) (t := 246) z7y (by kernel_rfl) (by kernel_rfl)
theorem zlu : SD 200 zde zgf := sd zuh zww Tryz.f200 (fun V t => by kernel_rfl) (fun V => by kernel_rfl) (fun V hV => (c1 (ztk V) c0)) Tryz.func200
theorem zpd : SD 199 ze1 zjn := sd cN zzi Tryz.f199 (fun V t => by kernel_rfl) (fun V => by kernel_rfl) (fun V hV => c0) Tryz.func199
theorem zlf : SD 193 gm zd5 := sd zk2 zmv Tryz.f193 (fun V t => by kernel_rfl) (fun V => by kernel_rfl) (fun V hV => (c1 (gx V hV) (c1 (zpd V hV) (c1 (zlu V hV) c0)))) Tryz.func193
theorem zil : SD 194 vl zcc := sd zic zjo Tryz.f194 (fun V t => by kernel_rfl) (fun V => by kernel_rfl) (fun V hV => (c1 (gx V hV) (c1 (zpd V hV) (c1 (zlu V hV) c0)))) Tryz.func194
theorem znl : SD 184 zat zfi := sd zmw zpn Tryz.f184 (fun V t => by kernel_rfl) (fun V => by kernel_rfl) (fun V hV => (c1 (zja V hV) (c1 (zj7 V hV) (c1 (zlf V hV) (c1 (zil V hV) c0))))) Tryz.func184
theorem zp5 : SD 169 zb2 zhg := sd zpo zsc Tryz.f169 (fun V t => by kernel_rfl) (fun V => by kernel_rfl) (fun V hV => (c1 (zoy V hV) (c1 (znl V hV) c0))) Tryz.func169
theorem ztl : SD 151 zeq zhm := sd zs4 zvk Tryz.f151 (fun V t => by kernel_rfl) (fun V => by kernel_rfl) (fun V hV => (c1 (zp4 V hV) (c1 (zp5 V hV) c0))) Tryz.func151
theorem zsm : SD 170 zdz zjp := sd cN zui Tryz.f170 (fun V t => by kernel_rfl) (fun V => by kernel_rfl) (fun V hV => c0) Tryz.func170
theorem zg1 : SD 195 wi zaf := sd cN zhx Tryz.f195 (fun V t => by kernel_rfl) (fun V => by kernel_rfl) (fun V hV => c0) Tryz.func195
theorem znm : SD 185 zau zfj := sd zmx zpp Tryz.f185 (fun V t => by kernel_rfl) (fun V => by kernel_rfl) (fun V hV => (c1 (zg1 V hV) c0)) Tryz.func185
theorem qo (V : Ev) : zr Tryz.prog (env V []) 76 ⟨xa, yi V⟩ :=
 zyb (fun b w h0 h1 h2 => Any.Builder_copyCheck_fresh lays z8n b w h0 h1 h2) (fun b w h0 => Any.Builder_copyCheck_used lays z8n b w h0) ⟨.inl rfl, .inl rfl⟩ (fun t u h ren => by cases h; rfl)
theorem zf4 : SD 171 ki ba := sd zfw zgv Tryz.f171 (fun V t => by kernel_rfl) (fun V => by kernel_rfl) (fun V hV => (c1 (qo V) (c1 (znm V hV) c0))) Tryz.func171
theorem qb : SD 45 xb yf := sd cN zid Tryz.f45 (fun V t => by kernel_rfl) (fun V => by kernel_rfl) (fun V hV => c0) Tryz.func45
theorem zzs : SD 152 zlq zuj := sd zzj z2g Tryz.f152 (fun V t => by kernel_rfl) (fun V => by kernel_rfl) (fun V hV => (c1 (qb V hV) (c1 (zsm V hV) (c1 (zf4 V hV) c0)))) Tryz.func152
theorem zvw : SD 135 zgg zql := sd zvl zyj Tryz.f135 (fun V t => by kernel_rfl) (fun V => by kernel_rfl) (fun V hV => (c1 (zvv V hV) (c1 (zox V hV) (c1 (ztl V hV) (c1 (zzs V hV) c0))))) Tryz.func135
theorem zf5 : SD 113 kj bb := sd zfx zgw Tryz.f113 (fun V t => by kernel_rfl) (fun V => by kernel_rfl) (fun V hV => (c1 (qo V) c0)) Tryz.func113
theorem zaa : SD 43 qm xj := sd ze2 zfy Tryz.f43 (fun V t => by kernel_rfl) (fun V => by kernel_rfl) (fun V hV => (c1 (qo V) c0)) Tryz.func43
theorem x9 : SD 43 y6 zd := sd ze3 zfz Tryz.f43 (fun V t => by kernel_rfl) (fun V => by kernel_rfl) (fun V hV => (c1 (qo V) c0)) Tryz.func43
theorem ztm : SD 112 zer zl3 := sd zs5 zvm Tryz.f112 (fun V t => by kernel_rfl) (fun V => by kernel_rfl) (fun V hV => (jl ((gz (zaa V hV) (gz (x9 V hV) zeu))) (c1 (qb V hV) (c1 (zf5 V hV) (c1 (zc6 V hV) (c1 (znj V hV) (c1 (zvw V hV) c0))))))) Tryz.func112
theorem jm : SD 111 xx yu := sd cN zmy Tryz.f111 (fun V t => by kernel_rfl) (fun V => by kernel_rfl) (fun V hV => c0) Tryz.func111
theorem bg : SD 81 jf ql := sd zie zjq Tryz.f81 (fun V t => by kernel_rfl) (fun V => by kernel_rfl) (fun V hV => (c1 (jm V hV) (c1 (ztm V hV) c0))) Tryz.func81
theorem zmf : SD 128 bq zew := sd zl4 zoj Tryz.f128 (fun V t => by kernel_rfl) (fun V => by kernel_rfl) (fun V hV => (c1 (wc V hV) (c1 (bg V hV) (c1 (za0 V hV) (c1 (jm V hV) (c1 (zni V hV) (c1 (za8 V hV) c0))))))) Tryz.func128
theorem zmg : SD 142 br zex := sd zl5 zok Tryz.f142 (fun V t => by kernel_rfl) (fun V => by kernel_rfl) (fun V hV => (c1 (za8 V hV) (c1 (zc6 V hV) c0))) Tryz.func142
theorem znn : SD 78 zav zfk := sd zmz zpq Tryz.f78 (fun V t => by kernel_rfl) (fun V => by kernel_rfl) (fun V hV => (c1 (zmg V hV) c0)) Tryz.func78
theorem zjb : SD 144 ug zct := sd cN zk3 Tryz.f144 (fun V t => by kernel_rfl) (fun V => by kernel_rfl) (fun V hV => c0) Tryz.func144
theorem zcl : SD 101 qc kn := sd zck zdf Tryz.f101 (fun V t => by kernel_rfl) (fun V => by kernel_rfl) (fun V hV => (c1 (zjb V hV) c0)) Tryz.func101
theorem zbv : SD 143 xy ju := sd zbr zcd Tryz.f143 (fun V t => by kernel_rfl) (fun V => by kernel_rfl) (fun V hV => (c1 (zcl V hV) c0)) Tryz.func143
theorem zlg : SD 157 gn zd6 := sd zk4 zm0 Tryz.f157 (fun V t => by kernel_rfl) (fun V => by kernel_rfl) (fun V hV => (c1 (za8 V hV) c0)) Tryz.func157
theorem zno : SD 78 zaw zcu := sd zm1 zpr Tryz.f78 (fun V t => by kernel_rfl) (fun V => by kernel_rfl) (fun V hV => (c1 (za8 V hV) c0)) Tryz.func78
theorem zfv : SD 131 uk zag := sd zm2 zps Tryz.f131 (fun V t => by kernel_rfl) (fun V => by kernel_rfl) (fun V hV => (c1 (gw V hV) (c1 (znj V hV) c0))) Tryz.func131
theorem znp : SD 78 zax zfl := sd zm3 zpt Tryz.f78 (fun V t => by kernel_rfl) (fun V => by kernel_rfl) (fun V hV => (c1 (zlg V hV) c0)) Tryz.func78
theorem zj8 : SD 145 uv zdw := sd zjr zl6 Tryz.f145 (fun V t => by kernel_rfl) (fun V => by kernel_rfl) (fun V hV => (c1 (znp V hV) (c1 (bg V hV) (c1 (gw V hV) (c1 (za0 V hV) (c1 (zfv V hV) c0)))))) Tryz.func145
theorem zlh : SD 129 gp zd7 := sd zk5 zm5 Tryz.f129 (fun V t => by kernel_rfl) (fun V => by kernel_rfl) (fun V hV => (jl ((gz (znn V hV) (gz (zno V hV) zeu))) (c1 (za0 V hV) (c1 (jm V hV) (c1 (zik V hV) (c1 (zbv V hV) (c1 (zj8 V hV) c0))))))) Tryz.func129
theorem zmh : SD 108 bt zb3 := sd zl7 zol Tryz.f108 (fun V t => by kernel_rfl) (fun V => by kernel_rfl) (fun V hV => (c1 (znh V hV) (c1 (wc V hV) (c1 (jm V hV) (c1 (zik V hV) (c1 (za8 V hV) (c1 (zyw V hV) (c1 (zmf V hV) (c1 (zlh V hV) c0))))))))) Tryz.func108
theorem zur (V : Ev) : zr Tryz.prog (env V []) 146 ⟨zfc, zom V⟩ := z4x z7x (by kernel_rfl)
theorem zyy : SD 132 ziz zvn := sd zyk z1a Tryz.f132 (fun V t => by kernel_rfl) (fun V => by kernel_rfl) (fun V hV => (c1 (zur V) c0)) Tryz.func132
theorem zli : SD 110 gq u5 := sd zk6 zm6 Tryz.f110 (fun V t => by kernel_rfl) (fun V => by kernel_rfl) (fun V hV => (c1 (wc V hV) (c1 (jm V hV) (c1 (zfv V hV) (c1 (zyy V hV) c0))))) Tryz.func110
theorem zlj : SD 77 gr zd8 := sd zk7 zm7 Tryz.f77 (fun V t => by kernel_rfl) (fun V => by kernel_rfl) (fun V hV => (c1 (wc V hV) (c1 (gw V hV) (c1 (zup V hV) (c1 (zmh V hV) (c1 (za0 V hV) (c1 (zli V hV) (c1 (jm V hV) c0)))))))) Tryz.func77
theorem zsn : SD 79 zd0 zjs := sd cN zuk Tryz.f79 (fun V t => by kernel_rfl) (fun V => by kernel_rfl) (fun V hV => c0) Tryz.func79
theorem znq : SD 78 zay zfm := sd zm8 zpu Tryz.f78 (fun V t => by kernel_rfl) (fun V => by kernel_rfl) (fun V hV => (c1 (zsn V hV) c0)) Tryz.func78
theorem zus : SD 47 zfd zon := sd zul zwx Tryz.f47 (fun V t => by kernel_rfl) (fun V => by kernel_rfl) (fun V hV => (c1 (zlj V hV) (c1 (znq V hV) (c1 (wc V hV) (c1 (bg V hV) c0))))) Tryz.func47
theorem z1f : SD 48 zoo zop := sd cN z3a Tryz.f48 (fun V t => by kernel_rfl) (fun V => by kernel_rfl) (fun V hV => c0) Tryz.func48
theorem zut : SD 66 zjt zbe := sd cN z3b Tryz.f66 (fun V t => by kernel_rfl) (fun V => by kernel_rfl) (fun V hV => c0) Tryz.func66
theorem zq4 : SD 67 zgh wl := sd cN z1b Tryz.f67 (fun V t => by kernel_rfl) (fun V => by kernel_rfl) (fun V hV => c0) Tryz.func67
theorem zcj : SD 33 bu x8 := sd zyl z1c Tryz.f33 (fun V t => by kernel_rfl) (fun V => by kernel_rfl) (fun V hV => (c1 (zut V hV) (c1 (zq4 V hV) c0))) Tryz.func33
theorem bn : SD 51 qf zl := sd cN zfn Tryz.f51 (fun V t => by kernel_rfl) (fun V => by kernel_rfl) (fun V hV => c0) Tryz.func51
theorem wh : SD 52 xl zi := sd cN zfo Tryz.f52 (fun V t => by kernel_rfl) (fun V => by kernel_rfl) (fun V hV => c0) Tryz.func52
theorem zea : SD 53 wo yg := sd cN zl8 Tryz.f53 (fun V t => by kernel_rfl) (fun V => by kernel_rfl) (fun V hV => c0) Tryz.func53
theorem zab : SD 54 qn zn := sd cN zf0 Tryz.f54 (fun V t => by kernel_rfl) (fun V => by kernel_rfl) (fun V hV => c0) Tryz.func54
theorem zj9 : SD 55 uw yq := sd cN zl9 Tryz.f55 (fun V t => by kernel_rfl) (fun V => by kernel_rfl) (fun V hV => c0) Tryz.func55
theorem zpe : SD 153 ze4 ko := sd zwy zzk Tryz.f153 (fun V t => by kernel_rfl) (fun V => by kernel_rfl) (fun V hV => (c1 (bn V hV) (c1 (wh V hV) (c1 (zea V hV) c0)))) Tryz.func153
theorem zzt : SD 136 zlr bh := sd zzl z2h Tryz.f136 (fun V t => by kernel_rfl) (fun V => by kernel_rfl) (fun V hV => (c1 (zcj V hV) (c1 (wh V hV) (c1 (zut V hV) (c1 (zpe V hV) c0))))) Tryz.func136
theorem zfq : SD 138 kb zu := sd cN zgi Tryz.f138 (fun V t => by kernel_rfl) (fun V => by kernel_rfl) (fun V hV => c0) Tryz.func138
theorem zq5 : SD 69 zgj wm := sd zym z1d Tryz.f69 (fun V t => by kernel_rfl) (fun V => by kernel_rfl) (fun V hV => (c1 (zcj V hV) c0)) Tryz.func69
theorem zzu : SD 155 zls xi := sd cN z2i Tryz.f155 (fun V t => by kernel_rfl) (fun V => by kernel_rfl) (fun V hV => c0) Tryz.func155
theorem zmi : SD 154 bv yh := sd cN zoq Tryz.f154 (fun V t => by kernel_rfl) (fun V => by kernel_rfl) (fun V hV => c0) Tryz.func154
theorem znr : SD 71 zd9 wj := sd cN zyn Tryz.f71 (fun V t => by kernel_rfl) (fun V => by kernel_rfl) (fun V hV => c0) Tryz.func71
theorem zuu (V : Ev) (hV : V.OK) (Y : (qd).In → Option (qd).Out) (self : (y8).In → Option (y8).Out) (h : zr Tryz.prog (envI V [] [] (some ⟨qd, Y⟩)) 100 ⟨y8, self⟩) : zr Tryz.prog (envI V [] [] (some ⟨qd, Y⟩)) 100 ⟨y8, bw V Y self⟩ := by
 rw [← zyp V Y self]
 exact zhu (E2 := (envI V [] [] (some ⟨qd, Y⟩))) (z2k V hV (zm9 V Y self) [] (some ⟨qd, Y⟩) (by kernel_rfl) (by kernel_rfl) (jl ((gz h zeu)) c0) zqg) rfl rfl rfl (.inr ⟨rfl, _, rfl⟩) Tryz.func100
theorem zlv (V : Ev) (hV : V.OK) (Y : (qd).In → Option (qd).Out) : ∀ m, zr Tryz.prog (envI V [] [] (some ⟨qd, Y⟩)) 100 ⟨y8, xo V Y m⟩
 | 0 => zr.none
 | m + 1 => zuu V hV Y _ (zlv V hV Y m)
theorem zvx (V : Ev) (hV : V.OK) (Y : (qd).In → Option (qd).Out) : zr Tryz.prog (envI V [] [] (some ⟨qd, Y⟩)) 100 ⟨y8, zbf V Y⟩ := zr.rc hV (zlv V hV Y)
theorem ztn (V : Ev) (hV : V.OK) (Y : (qd).In → Option (qd).Out) : zr Tryz.prog (envI V [] [] (some ⟨qd, Y⟩)) 99 ⟨zce, vi V Y⟩ := by
 rw [← zvp V Y]
 exact zhu (E2 := (envI V [] [] (some ⟨qd, Y⟩))) (z2k V hV (zju V Y) [] (some ⟨qd, Y⟩) (by kernel_rfl) (by kernel_rfl) (jl ((gz (zvx V hV Y) zeu)) c0) zqg) rfl rfl rfl (.inr ⟨rfl, _, rfl⟩) Tryz.func99
theorem zlw : SD 173 zdg qt := sd cN zwz Tryz.f173 (fun V t => by kernel_rfl) (fun V => by kernel_rfl) (fun V hV => c0) Tryz.func173
theorem zf6 : SD 186 kk zx := sd zf1 zgx Tryz.f186 (fun V t => by kernel_rfl) (fun V => by kernel_rfl) (fun V hV => (c1 (zlw V hV) c0)) Tryz.func186
theorem zfr : SD 172 kc zw := sd zfp zgk Tryz.f172 (fun V t => by kernel_rfl) (fun V => by kernel_rfl) (fun V hV => (c1 (zlw V hV) (c1 (zf6 V hV) c0))) Tryz.func172
theorem zw3 : SD 156 zhn ww := sd zw0 zzm Tryz.f156 (fun V t => by kernel_rfl) (fun V => by kernel_rfl) (fun V hV => (c1 (zfr V hV) c0)) Tryz.func156
theorem z1g (V : Ev) (hV : V.OK) : zr Tryz.prog (env V []) 137 ⟨zjv, zb4 V⟩ := by
 rw [← z3d V]
 exact zhu (E2 := (env V [])) (z2k V hV (zum V) (zyq V) none (by kernel_rfl) (by kernel_rfl) (jl ((gz (zcj V hV) zeu)) (jl ((gz (zq4 V hV) zeu)) (jl ((gz (zq5 V hV) zeu)) (jl ((gz (znr V hV) zeu)) (jl ((gz (zpe V hV) zeu)) (jl ((gz (zmi V hV) zeu)) (jl ((gz (zzu V hV) zeu)) (jl ((gz (zw3 V hV) zeu)) c0)))))))) (z4b (z4a (ztn V hV) z59) zqg)) rfl rfl rfl (.inl rfl) Tryz.func137
theorem za6 : SD 115 kg yd := sd zk8 znb Tryz.f115 (fun V t => by kernel_rfl) (fun V => by kernel_rfl) (fun V hV => (c1 (zzt V hV) (c1 (z1g V hV) (c1 (zfq V hV) c0)))) Tryz.func115
theorem zka : SD 85 ux yr := sd zjw zma Tryz.f85 (fun V t => by kernel_rfl) (fun V => by kernel_rfl) (fun V hV => (c1 (za6 V hV) c0)) Tryz.func85
theorem zhz : SD 86 vg ye := sd zhy zi0 Tryz.f86 (fun V t => by kernel_rfl) (fun V => by kernel_rfl) (fun V hV => (c1 (za6 V hV) c0)) Tryz.func86
theorem zdj : SD 29 b8 x4 := sd cN zzn Tryz.f29 (fun V t => by kernel_rfl) (fun V => by kernel_rfl) (fun V hV => c0) Tryz.func29
theorem zaj : SD 56 jy zz := sd cN zmb Tryz.f56 (fun V t => by kernel_rfl) (fun V => by kernel_rfl) (fun V hV => c0) Tryz.func56
theorem zjc : SD 87 uh yp := sd zi1 zk9 Tryz.f87 (fun V t => by kernel_rfl) (fun V => by kernel_rfl) (fun V hV => (c1 (zdj V hV) (c1 (zab V hV) (c1 (zaj V hV) (c1 (za6 V hV) c0))))) Tryz.func87
theorem ze5 : SD 116 jx y4 := sd cN zf2 Tryz.f116 (fun V t => by kernel_rfl) (fun V => by kernel_rfl) (fun V hV => c0) Tryz.func116
theorem zlk : SD 88 gt yv := sd zla znc Tryz.f88 (fun V t => by kernel_rfl) (fun V => by kernel_rfl) (fun V hV => (c1 (zaj V hV) (c1 (ze5 V hV) c0))) Tryz.func88
theorem zim : SD 21 zdr jp := sd zw1 zzo Tryz.f21 (fun V t => by kernel_rfl) (fun V => by kernel_rfl) (fun V hV => (c1 (zcj V hV) (c1 (bn V hV) (c1 (wh V hV) (c1 (zea V hV) (c1 (zab V hV) (c1 (zj9 V hV) (c1 (zaj V hV) (c1 (zka V hV) (c1 (zhz V hV) (c1 (zjc V hV) (c1 (zlk V hV) c0)))))))))))) Tryz.func21
theorem zdk : SD 16 b9 jr := sd zw2 zzp Tryz.f16 (fun V t => by kernel_rfl) (fun V => by kernel_rfl) (fun V hV => (c1 (zim V hV) (c1 (z1f V hV) c0))) Tryz.func16
theorem zw4 : SD 82 zho zs6 := sd cN zzq Tryz.f82 (fun V t => by kernel_rfl) (fun V => by kernel_rfl) (fun V hV => c0) Tryz.func82
theorem zf7 : SD 113 kl bc := sd zf3 zgy Tryz.f113 (fun V t => by kernel_rfl) (fun V => by kernel_rfl) (fun V hV => (c1 (qo V) c0)) Tryz.func113
theorem zkb : SD 83 zcf zds := sd zs7 zvq Tryz.f83 (fun V t => by kernel_rfl) (fun V => by kernel_rfl) (fun V hV => (c1 (x9 V hV) (c1 (qb V hV) (c1 (zf7 V hV) c0)))) Tryz.func83
theorem zvy : SD 84 zgl zqm := sd zvr zyr Tryz.f84 (fun V t => by kernel_rfl) (fun V => by kernel_rfl) (fun V hV => (jl ((gz (zaa V hV) (gz (x9 V hV) zeu))) (c1 (qb V hV) (c1 (zkb V hV) (c1 (zni V hV) c0))))) Tryz.func84
theorem zq6 (V : Ev) (hV : V.OK) (self : (yk).In → Option (yk).Out) (h : zr Tryz.prog (env V []) 49 ⟨yk, self⟩) : zr Tryz.prog (env V []) 49 ⟨yk, zif V self⟩ := by
 rw [← zuo V self]
 exact zhu (E2 := (env V [])) (z2k V hV (ziq V self) [] none (by kernel_rfl) (by kernel_rfl) (jl ((gz (zdj V hV) zeu)) (jl ((gz (x9 V hV) zeu)) (jl ((gz h zeu)) (jl ((gz (zw4 V hV) zeu)) (jl ((gz (zkb V hV) zeu)) (jl ((gz (zvy V hV) zeu)) c0)))))) zqg) rfl rfl rfl (.inl rfl) Tryz.func49
theorem zh0 (V : Ev) (hV : V.OK) : ∀ m, zr Tryz.prog (env V []) 49 ⟨yk, zig V m⟩
 | 0 => zr.none
 | m + 1 => zq6 V hV _ (zh0 V hV m)
theorem zso (V : Ev) (hV : V.OK) : zr Tryz.prog (env V []) 49 ⟨yk, zjx V⟩ := zr.rc hV (zh0 V hV)
theorem zvz : SD 17 zgm zqn := sd zvs zys Tryz.f17 (fun V t => by kernel_rfl) (fun V => by kernel_rfl) (fun V hV => (c1 (zcj V hV) (c1 (qb V hV) (c1 (zso V hV) c0)))) Tryz.func17
theorem zoz : SD 60 zbg zbh := sd zor zqo Tryz.f60 (fun V t => by kernel_rfl) (fun V => by kernel_rfl) (fun V hV => (c1 (zdk V hV) (c1 (zvz V hV) (c1 (zus V hV) c0)))) Tryz.func60
theorem zc7 : SD 24 w5 xz := sd cN zqp Tryz.f24 (fun V t => by kernel_rfl) (fun V => by kernel_rfl) (fun V hV => c0) Tryz.func24
theorem kh : SD 25 qi z7 := sd znd zpv Tryz.f25 (fun V t => by kernel_rfl) (fun V => by kernel_rfl) (fun V hV => (c1 (zc7 V hV) (c1 (zdj V hV) (c1 (zoz V hV) c0)))) Tryz.func25
theorem zmj : SD 63 bx x6 := sd cN zos Tryz.f63 (fun V t => by kernel_rfl) (fun V => by kernel_rfl) (fun V hV => c0) Tryz.func63
theorem zq7 : SD 31 zcv bd := sd zqq zs8 Tryz.f31 (fun V t => by kernel_rfl) (fun V => by kernel_rfl) (fun V hV => (c1 (zmj V hV) c0)) Tryz.func31
theorem u9 : SD 27 kp z6 := sd cN zs9 Tryz.f27 (fun V t => by kernel_rfl) (fun V => by kernel_rfl) (fun V hV => c0) Tryz.func27
theorem zgn : SD 18 u6 kd := sd zot zqr Tryz.f18 (fun V t => by kernel_rfl) (fun V => by kernel_rfl) (fun V hV => (c1 (u9 V hV) (c1 (zq7 V hV) c0))) Tryz.func18
theorem ze6 : SD 50 vm jb := sd cN zou Tryz.f50 (fun V t => by kernel_rfl) (fun V => by kernel_rfl) (fun V hV => c0) Tryz.func50
theorem zbl : SD 19 wx qr := sd zqs zta Tryz.f19 (fun V t => by kernel_rfl) (fun V => by kernel_rfl) (fun V hV => (c1 (ze6 V hV) c0)) Tryz.func19
theorem zq8 : SD 20 zcw zdh := sd cN ztb Tryz.f20 (fun V t => by kernel_rfl) (fun V => by kernel_rfl) (fun V hV => c0) Tryz.func20
theorem zh1 : SD 89 zah wt := sd cN ztc Tryz.f89 (fun V t => by kernel_rfl) (fun V => by kernel_rfl) (fun V hV => c0) Tryz.func89
theorem zc8 : SD 117 w6 qu := sd cN zqt Tryz.f117 (fun V t => by kernel_rfl) (fun V => by kernel_rfl) (fun V hV => c0) Tryz.func117
theorem zp6 : SD 90 zb5 um := sd zpw zsd Tryz.f90 (fun V t => by kernel_rfl) (fun V => by kernel_rfl) (fun V hV => (c1 (zc8 V hV) c0)) Tryz.func90
theorem zo0 : SD 118 zbi wk := sd cN zqu Tryz.f118 (fun V t => by kernel_rfl) (fun V => by kernel_rfl) (fun V hV => c0) Tryz.func118
theorem zq9 : SD 119 zcx be := sd cN ztd Tryz.f119 (fun V t => by kernel_rfl) (fun V => by kernel_rfl) (fun V hV => c0) Tryz.func119
theorem zns : SD 91 zaz wy := sd zne zpx Tryz.f91 (fun V t => by kernel_rfl) (fun V => by kernel_rfl) (fun V hV => (c1 (zc8 V hV) (c1 (zo0 V hV) (c1 (zq9 V hV) c0)))) Tryz.func91
theorem zp7 : SD 92 zb6 un := sd cN zse Tryz.f92 (fun V t => by kernel_rfl) (fun V => by kernel_rfl) (fun V hV => c0) Tryz.func92
theorem zc9 : SD 57 w7 qw := sd zov zqv Tryz.f57 (fun V t => by kernel_rfl) (fun V => by kernel_rfl) (fun V hV => (c1 (zh1 V hV) (c1 (zp6 V hV) (c1 (zns V hV) (c1 (zp7 V hV) c0))))) Tryz.func57
theorem zp8 : SD 120 zb7 w8 := sd zpy zsf Tryz.f120 (fun V t => by kernel_rfl) (fun V => by kernel_rfl) (fun V hV => (c1 (zbl V hV) (c1 (ze6 V hV) (c1 (zc9 V hV) (c1 (zh1 V hV) c0))))) Tryz.func120
theorem zo1 : SD 139 zbj vn := sd cN zqw Tryz.f139 (fun V t => by kernel_rfl) (fun V => by kernel_rfl) (fun V hV => c0) Tryz.func139
theorem zra : SD 140 zcy bf := sd zqx zte Tryz.f140 (fun V t => by kernel_rfl) (fun V => by kernel_rfl) (fun V hV => (c1 (zbl V hV) c0)) Tryz.func140
theorem zrb : SD 121 zcz ua := sd zqy ztf Tryz.f121 (fun V t => by kernel_rfl) (fun V => by kernel_rfl) (fun V hV => (c1 (zc9 V hV) (c1 (zc8 V hV) (c1 (zo1 V hV) (c1 (zra V hV) c0))))) Tryz.func121
theorem zin : SD 93 vo x1 := sd zih zj0 Tryz.f93 (fun V t => by kernel_rfl) (fun V => by kernel_rfl) (fun V hV => (c1 (zp8 V hV) (c1 (zrb V hV) c0))) Tryz.func93
theorem zg3 : SD 30 bj k8 := sd cN zsg Tryz.f30 (fun V t => by kernel_rfl) (fun V => by kernel_rfl) (fun V hV => c0) Tryz.func30
theorem ga : SD 59 q9 yx := sd cN zi2 Tryz.f59 (fun V t => by kernel_rfl) (fun V => by kernel_rfl) (fun V hV => c0) Tryz.func59
theorem zio : SD 94 vp jg := sd zii zj1 Tryz.f94 (fun V t => by kernel_rfl) (fun V => by kernel_rfl) (fun V hV => (c1 (ga V hV) c0)) Tryz.func94
theorem zhi : SD 58 wu qq := sd zhh zij Tryz.f58 (fun V t => by kernel_rfl) (fun V => by kernel_rfl) (fun V hV => (c1 (zg3 V hV) (c1 (ga V hV) (c1 (zin V hV) (c1 (zio V hV) c0))))) Tryz.func58
theorem zg4 : SD 22 bk k9 := sd zpz zsh Tryz.f22 (fun V t => by kernel_rfl) (fun V => by kernel_rfl) (fun V hV => (c1 (zbl V hV) (c1 (zc9 V hV) (c1 (zhi V hV) (c1 (ga V hV) c0))))) Tryz.func22
theorem zgo : SD 68 u7 x3 := sd cN zqz Tryz.f68 (fun V t => by kernel_rfl) (fun V => by kernel_rfl) (fun V hV => c0) Tryz.func68
theorem zg5 : SD 36 bl qa := sd cN zsi Tryz.f36 (fun V t => by kernel_rfl) (fun V => by kernel_rfl) (fun V hV => c0) Tryz.func36
theorem zh2 : SD 34 zai jw := sd zq0 ztg Tryz.f34 (fun V t => by kernel_rfl) (fun V => by kernel_rfl) (fun V hV => (c1 (zg5 V hV) (c1 (zgo V hV) c0))) Tryz.func34
theorem zg6 : SD 23 bm jz := sd zp0 zsj Tryz.f23 (fun V t => by kernel_rfl) (fun V => by kernel_rfl) (fun V hV => (c1 (zh2 V hV) c0)) Tryz.func23
theorem zrc : SD 61 zc0 zdi := sd zq1 zth Tryz.f61 (fun V t => by kernel_rfl) (fun V => by kernel_rfl) (fun V hV => (c1 (zgo V hV) c0)) Tryz.func61
theorem zp9 : SD 26 zb8 zcg := sd zp1 zsk Tryz.f26 (fun V t => by kernel_rfl) (fun V => by kernel_rfl) (fun V hV => (c1 (zrc V hV) c0)) Tryz.func26
theorem soundpouncelaw17_BuildInto_ : SD 4 zbs zdx := sd zj2 zmc Tryz.f4 (fun V t => by kernel_rfl) (fun V => by kernel_rfl) (fun V hV => (c1 (zgn V hV) (c1 (zbl V hV) (c1 (zq8 V hV) (c1 (zim V hV) (c1 (zg4 V hV) (c1 (zg6 V hV) (c1 (zc7 V hV) (c1 (kh V hV) (c1 (zp9 V hV) c0)))))))))) Tryz.func4
theorem zrd : SD 62 zc1 zfe := sd cN zti Tryz.f62 (fun V t => by kernel_rfl) (fun V => by kernel_rfl) (fun V hV => c0) Tryz.func62
theorem zqa : SD 28 zb9 zch := sd zp2 zsl Tryz.f28 (fun V t => by kernel_rfl) (fun V => by kernel_rfl) (fun V hV => (c1 (zg4 V hV) (c1 (zrd V hV) c0))) Tryz.func28
theorem soundpouncelaw17_BuildPages_ : SD 5 za2 zc2 := sd zi3 zlb Tryz.f5 (fun V t => by kernel_rfl) (fun V => by kernel_rfl) (fun V hV => (c1 (zdk V hV) (c1 (zg6 V hV) (c1 (zc7 V hV) (c1 (kh V hV) (c1 (u9 V hV) (c1 (zqa V hV) (c1 (zdj V hV) (c1 (zg3 V hV) c0))))))))) Tryz.func5
theorem soundpouncelaw17_BuildVoids_ : SD 7 za3 zc3 := sd zi4 zlc Tryz.f7 (fun V t => by kernel_rfl) (fun V => by kernel_rfl) (fun V hV => (c1 (zdk V hV) (c1 (kh V hV) (c1 (u9 V hV) (c1 (zdj V hV) c0))))) Tryz.func7
theorem zuv (V : Ev) (hV : V.OK) (Y : (qe).In → Option (qe).Out) (self : (y9).In → Option (y9).Out) (h : zr Tryz.prog (envI V [] [] (some ⟨qe, Y⟩)) 100 ⟨y9, self⟩) : zr Tryz.prog (envI V [] [] (some ⟨qe, Y⟩)) 100 ⟨y9, zes V Y self⟩ := by
 rw [← zyu V Y self]
 exact zhu (E2 := (envI V [] [] (some ⟨qe, Y⟩))) (z2k V hV (znf V Y self) [] (some ⟨qe, Y⟩) (by kernel_rfl) (by kernel_rfl) (jl ((gz h zeu)) c0) zqg) rfl rfl rfl (.inr ⟨rfl, _, rfl⟩) Tryz.func100
theorem zlx (V : Ev) (hV : V.OK) (Y : (qe).In → Option (qe).Out) : ∀ m, zr Tryz.prog (envI V [] [] (some ⟨qe, Y⟩)) 100 ⟨y9, wv V Y m⟩
 | 0 => zr.none
 | m + 1 => zuv V hV Y _ (zlx V hV Y m)
theorem zv0 (V : Ev) (hV : V.OK) (Y : (qe).In → Option (qe).Out) : zr Tryz.prog (envI V [] [] (some ⟨qe, Y⟩)) 100 ⟨y9, zft V Y⟩ := zr.rc hV (zlx V hV Y)
theorem zto (V : Ev) (hV : V.OK) (Y : (qe).In → Option (qe).Out) : zr Tryz.prog (envI V [] [] (some ⟨qe, Y⟩)) 99 ⟨zci, zbt V Y⟩ := by
 rw [← zvu V Y]
 exact zhu (E2 := (envI V [] [] (some ⟨qe, Y⟩))) (z2k V hV (zj3 V Y) [] (some ⟨qe, Y⟩) (by kernel_rfl) (by kernel_rfl) (jl ((gz (zv0 V hV Y) zeu)) c0) zqg) rfl rfl rfl (.inr ⟨rfl, _, rfl⟩) Tryz.func99
theorem zf8 (V : Ev) (hV : V.OK) : zr Tryz.prog (env V []) 98 ⟨ja, x5 V⟩ := by
 rw [← zg0 V]
 exact zhu (E2 := (env V [])) (z2k V hV (za1 V) (zbx V) none (by kernel_rfl) (by kernel_rfl) c0 (z4b (z4a (zto V hV) z59) zqg)) rfl rfl rfl (.inl rfl) Tryz.func98
theorem zkc : SD 70 uy wn := sd zj4 zmd Tryz.f70 (fun V t => by kernel_rfl) (fun V => by kernel_rfl) (fun V hV => (c1 (zf8 V hV) c0)) Tryz.func70
theorem zkd : SD 37 zet zac := sd zyv z1e Tryz.f37 (fun V t => by kernel_rfl) (fun V => by kernel_rfl) (fun V hV => (c1 (zq5 V hV) (c1 (zkc V hV) (c1 (znr V hV) c0)))) Tryz.func37
theorem zo2 : SD 35 zbk gu := sd zow zq2 Tryz.f35 (fun V t => by kernel_rfl) (fun V => by kernel_rfl) (fun V hV => (c1 (zkd V hV) c0)) Tryz.func35
theorem soundpouncelaw17_BuildRight_ : SD 8 za4 zc4 := sd zi5 zld Tryz.f8 (fun V t => by kernel_rfl) (fun V => by kernel_rfl) (fun V hV => (c1 (zgn V hV) (c1 (zim V hV) (c1 (kh V hV) (c1 (zcj V hV) (c1 (zh2 V hV) (c1 (zo2 V hV) c0))))))) Tryz.func8
theorem soundpouncelaw17_BuildOrder_ : SD 9 za5 zc5 := sd zi6 zle Tryz.f9 (fun V t => by kernel_rfl) (fun V => by kernel_rfl) (fun V hV => (c1 (zdk V hV) (c1 (kh V hV) (c1 (u9 V hV) (c1 (zg5 V hV) (c1 (zkd V hV) c0)))))) Tryz.func9
theorem zzv : SD 38 zlt zq3 := sd zzr z2j Tryz.f38 (fun V t => by kernel_rfl) (fun V => by kernel_rfl) (fun V hV => (c1 (zkd V hV) (c1 (x9 V hV) (c1 (qb V hV) c0)))) Tryz.func38
theorem soundpouncelaw17_BuildText_ : SD 10 zbu zdy := sd zj5 zme Tryz.f10 (fun V t => by kernel_rfl) (fun V => by kernel_rfl) (fun V hV => (c1 (zdk V hV) (c1 (kh V hV) (c1 (u9 V hV) (c1 (zzv V hV) c0))))) Tryz.func10
end Go.En.Pl
