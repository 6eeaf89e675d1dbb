/- Text LTa of this seat: written by a program of ours, or by hand; checked by Lean. -/
import Derived.Test.YtljnjjnjdanajaaGreatDoorG
import Derived.Test.YtljnjjnjdanajaaGreatDoorW
import Derived.Test.YtljnjjnjdanajaaGreatDoorE13
set_option linter.unusedSimpArgs false
set_option linter.unusedVariables false
namespace Go.En.Pl
abbrev Att:=Bs×Bs
abbrev Tok:=Int×(Bs×(Bs×(List Att×Bool)))
def zhk (n:Bs):Bool:=n==([115,99,114,105,112,116]:Bs)||n==([115,116,121,108,101]:Bs)
theorem z12 (V:Ev) (n:Bs):vx V ((n,()),())=some ((zhk n,()),()):=by
 unfold vx zhk
 cases (n==([115,99,114,105,112,116]:Bs))<;>rfl
def names:List (Bs×Bs):=[([97,109,112],[38]),([108,116],[60]),([103,116],[62]),([113,117,111,116],[34]),([97,112,111,115],[39]),([110,98,115,112],[194,160]),([99,111,108,111,110],[58]),([108,112,97,114],[40]),([114,112,97,114],[41]),([116,97,98],[9])]
def nm (s:Bs):Bs×Bool:=match names.find? (fun p=>p.1==s) with
 | some p=>(p.2,true)
 | none=>([],false)
theorem yay (s:Bs):(nm s).1.length≤2:=by
 unfold nm
 cases hf:names.find? (fun p=>p.1==s) with
 | none=>simp
 | some p=>
  have hm:=List.mem_of_find?_eq_some hf
  have key:∀p∈names,p.2.length≤2:=by decide
  exact key p hm
theorem zvx (V:Ev) (s:Bs):zd7 V ((s,()),())=some (((nm s).1,((nm s).2,())),()):=by
 unfold zd7 nm
 simp only [names,List.find?_cons,List.find?_nil]
 cases (([97,109,112]:Bs)==s)<;>try rfl
 cases (([108,116]:Bs)==s)<;>try rfl
 cases (([103,116]:Bs)==s)<;>try rfl
 cases (([113,117,111,116]:Bs)==s)<;>try rfl
 cases (([97,112,111,115]:Bs)==s)<;>try rfl
 cases (([110,98,115,112]:Bs)==s)<;>try rfl
 cases (([99,111,108,111,110]:Bs)==s)<;>try rfl
 cases (([108,112,97,114]:Bs)==s)<;>try rfl
 cases (([114,112,97,114]:Bs)==s)<;>try rfl
 cases (([116,97,98]:Bs)==s)<;>rfl
def pt (n:Nat):Bool:=decide (n≤1114111) && !(decide (55296≤n)&&decide (n≤57343))
def utfI (n:Nat):List Int:=if n≤127 then [(n:Int)] else if n≤2047 then [((192+n/64:Nat):Int),((128+n%64:Nat):Int)]
 else if n≤65535 then [((224+n/4096:Nat):Int),((128+n/64%64:Nat):Int),((128+n%64:Nat):Int)]
 else [((240+n/262144:Nat):Int),((128+n/4096%64:Nat):Int),((128+n/64%64:Nat):Int),((128+n%64:Nat):Int)]
def utf (n:Nat):Bs:=toBs (utfI n)
theorem z6x (n:Nat):(utfI n).length≤4:=by
 unfold utfI
 split
 ·simp
 ·split
  ·simp
  ·split<;>simp
theorem z88 (n:Nat):(utf n).length≤4:=by
 unfold utf toBs;rw [List.length_map];exact z6x n
theorem yci:∀k:Fin 64,IntKind.wrap .u8 ((BitVec.toNat (BitVec.ofInt 8 (192:Int) ||| BitVec.ofInt 8 (IntKind.wrap .u8 ((k.val:Nat):Int))):Nat):Int)=((192+k.val:Nat):Int):=by decide +kernel
theorem ycj:∀k:Fin 16,IntKind.wrap .u8 ((BitVec.toNat (BitVec.ofInt 8 (224:Int) ||| BitVec.ofInt 8 (IntKind.wrap .u8 ((k.val:Nat):Int))):Nat):Int)=((224+k.val:Nat):Int):=by decide +kernel
theorem yck:∀k:Fin 8,IntKind.wrap .u8 ((BitVec.toNat (BitVec.ofInt 8 (240:Int) ||| BitVec.ofInt 8 (IntKind.wrap .u8 ((k.val:Nat):Int))):Nat):Int)=((240+k.val:Nat):Int):=by decide +kernel
theorem yaz:∀k:Fin 256,IntKind.wrap .u8 ((BitVec.toNat (BitVec.ofInt 8 (128:Int) ||| BitVec.ofInt 8 (IntKind.wrap .u8 ((BitVec.toNat (BitVec.ofInt 8 ((k.val:Nat):Int) &&& BitVec.ofInt 8 (63:Int)):Nat):Int))):Nat):Int)=((128+k.val%64:Nat):Int):=by decide +kernel
theorem z89 (k:Nat):IntKind.wrap .u8 ((BitVec.toNat (BitVec.ofInt 8 (128:Int) ||| BitVec.ofInt 8 (IntKind.wrap .u8 ((BitVec.toNat (BitVec.ofInt 8 (IntKind.wrap .u8 (k:Int)) &&& BitVec.ofInt 8 (63:Int)):Nat):Int))):Nat):Int)=((128+k%64:Nat):Int):=by
 have hk:k%256<256:=Nat.mod_lt _ (by decide)
 have e:IntKind.wrap .u8 (k:Int)=((k%256:Nat):Int):=by rw [IntKind.wrap_u8];omega
 have:=yaz ⟨k%256,hk⟩
 rw [e]
 simp only at this
 rw [this]
 omega
theorem zqu (V:Ev) (n:Nat):zaj V (((n:Int),()),())=some ((pt n,()),()):=by
 unfold zaj pt
 simp only [zsk,Option.bind_some,zsl,zsm,beq_true,Bool.cond_self]
 have e0:decide ((0:Int)≤(n:Int))=true:=decide_eq_true (by omega)
 have e1:decide ((n:Int)<55296)=decide (n<55296):=decide_eq_decide.2 (by omega)
 have e2:decide ((57343:Int)<(n:Int))=decide (57343<n):=decide_eq_decide.2 (by omega)
 have e3:decide ((n:Int)≤1114111)=decide (n≤1114111):=decide_eq_decide.2 (by omega)
 rw [e0,e1,e2,e3]
 by_cases h1:n<55296
 ·have a:¬55296≤n:=by omega
  have b:n≤1114111:=by omega
  simp [h1,a,b]
 ·by_cases h2:n≤57343
  ·have a:55296≤n:=by omega
   have b:¬57343<n:=by omega
   simp [h1,h2,a,b]
  ·have a:55296≤n:=by omega
   have b:57343<n:=by omega
   simp only [h1,h2,a,b,decide_true,decide_false,cond_true,cond_false,Bool.and_false,Bool.not_false,Bool.and_true]
   cases decide (n≤1114111)<;>rfl
theorem zei (V:Ev) (n:Nat) (h0:127<n) (h:n≤1114111) (hp:pt n=true):qe V (((n:Int),()),([],()))=some ((),(utfI n,())):=by
 unfold qe utfI
 have hu:IntKind.wrap .u32 (n:Int)=(n:Int):=z4x (by omega) (by omega)
 have f6:Int.fdiv (n:Int) (2^(min (Int.toNat (6:Int)) 32))=((n/64:Nat):Int):=by
  rw [Int.fdiv_eq_ediv_of_nonneg _ (by decide)];simp
 have f12:Int.fdiv (n:Int) (2^(min (Int.toNat (12:Int)) 32))=((n/4096:Nat):Int):=by
  rw [Int.fdiv_eq_ediv_of_nonneg _ (by decide)];simp
 have f18:Int.fdiv (n:Int) (2^(min (Int.toNat (18:Int)) 32))=((n/262144:Nat):Int):=by
  rw [Int.fdiv_eq_ediv_of_nonneg _ (by decide)];simp
 have rg:∀k:Nat,k≤1114111→rngB .i32 (k:Int)=true:=fun k hk=>by
  simp [rngB,IntKind.min,IntKind.max,IntKind.signed,IntKind.bits];omega
 have hf:∀l:List Int,l.length≤4→fits l.length 1=true:=fun l hl=>zc7 (by omega)
 have hn:([]:List Int).length=0:=rfl
 have d0:decide ((0:Int)≤6)=true:=rfl
 have d1:decide ((0:Int)≤12)=true:=rfl
 have d2:decide ((0:Int)≤18)=true:=rfl
 by_cases h2:n≤2047
 ·have o:=yci ⟨n/64,by omega⟩
  simp only at o
  rw [show decide ((IntKind.wrap .u32 (n:Int))≤2047)=true from by rw [hu];simp;omega,cond_true]
  simp only [hu,show decide ((n:Int)≤2047)=true from by simp;omega,cond_true,f6,f12,f18,rg _ (show n/64≤1114111 by omega),d0,Bool.true_and,o,z89,if_neg (show ¬n≤127 by omega),if_pos h2,List.nil_append,hn,Nat.zero_add]
  rw [hf _ (by simp)]
  rfl
 by_cases h3:n≤65535
 ·have o:=ycj ⟨n/4096,by omega⟩
  simp only at o
  have hs:n<55296∨57343<n:=by
   simp [pt]at hp;omega
  rw [show decide ((IntKind.wrap .u32 (n:Int))≤2047)=false from by rw [hu];simp;omega,cond_false]
  have hb:(bif decide ((IntKind.wrap .u32 (n:Int))<55296) then some (((n:Int),((IntKind.wrap .u32 (n:Int)),(decide ((IntKind.wrap .u32 (n:Int))<(55296:Int)),()))),(([]:List Int),())) else ((bif (decide ((57343:Int)<(IntKind.wrap .u32 (n:Int)))==true) then (some (((n:Int),((IntKind.wrap .u32 (n:Int)),(decide ((IntKind.wrap .u32 (n:Int))≤(65535:Int)),()))),(([]:List Int),()))) else (some (((n:Int),((IntKind.wrap .u32 (n:Int)),(false,()))),(([]:List Int),())))).bind fun o1=>(some ((o1.1.1,(o1.1.2.1,(o1.1.2.2.1,()))),(o1.2.1,())))))=some (((n:Int),((n:Int),(true,()))),(([]:List Int),())):=by
   rw [hu]
   rcases hs with hs | hs
   ·rw [show decide ((n:Int)<55296)=true from by simp;omega];rfl
   ·rw [show decide ((n:Int)<55296)=false from by simp;omega,show decide ((57343:Int)<(n:Int))=true from by simp;omega,show decide ((n:Int)≤65535)=true from by simp;omega];rfl
  rw [hb,Option.bind_some]
  simp only [cond_true,f6,f12,rg _ (show n/64≤1114111 by omega),rg _ (show n/4096≤1114111 by omega),d0,d1,Bool.true_and,o,z89,if_neg (show ¬n≤127 by omega),if_neg h2,if_pos h3,List.nil_append,hn,Nat.zero_add]
  rw [hf _ (by simp)]
  rfl
 ·have o:=yck ⟨n/262144,by omega⟩
  simp only at o
  simp only [zsk,Option.bind_some,zsl,zsm,beq_true,Bool.cond_self,hu,show decide ((n:Int)≤2047)=false from by simp;omega,cond_false,f6,f12,f18,rg _ (show n/64≤1114111 by omega),rg _ (show n/4096≤1114111 by omega),rg _ (show n/262144≤1114111 by omega),d0,d1,d2,Bool.true_and,o,z89,if_neg (show ¬n≤127 by omega),if_neg h2,if_neg h3,List.nil_append,
   show decide ((n:Int)<55296)=false from by simp;omega,show decide ((57343:Int)<(n:Int))=true from by simp;omega,show decide ((n:Int)≤65535)=false from by simp;omega,show decide ((n:Int)>65535)=true from by simp;omega,show decide ((n:Int)≤1114111)=true from by simp;omega,cond_true,hn,Nat.zero_add]
  rw [hf _ (by simp)]
  rfl
theorem zdi (V:Ev) (n:Nat) (h:n≤1114111) (hp:pt n=true):∃r,xl V (((n:Int),()),((),([],())))=some (r,((),(utfI n,()))):=by
 unfold xl gq zc
 have hu:IntKind.wrap .u32 (n:Int)=(n:Int):=z4x (by omega) (by omega)
 by_cases h1:n≤127
 ·simp only [Option.bind_some,hu,show decide ((n:Int)≤127)=true from by simp;omega,cond_true,zuh (show (0:Int)≤n by omega) (by omega:(n:Int)≤255),utfI,if_pos h1,List.length_nil,List.length_cons,Nat.zero_add,zc7 (show 1*1≤100000000 by decide),List.nil_append]
  exact⟨_,rfl⟩
 ·simp only [Option.bind_some,hu,show decide ((n:Int)≤127)=false from by simp;omega,cond_false,zei V n (by omega) h hp]
  exact⟨_,rfl⟩
theorem bj (V:Ev) (l:List Int):zf V ((),((),(l,())))=some ((toBs l,()),((),())):=by
 unfold zf
 simp only [beq_self_eq_true,cond_true]
theorem zuj (N:Nat) (hN:2<N) (n:Nat) (h:n≤300000000):zcx (Ev.upto N) ((([(n:Int)]:List Int),()),())=some (bif pt n then ((utf n,((0:Int),())),()) else (([],((1:Int),())),())):=by
 obtain⟨M,rfl⟩:∃M,N=M+1+1+1:=⟨N-3,by omega⟩
 unfold zcx
 have i0:idx ([(n:Int)]:List Int) 0=some (n:Int):=rfl
 have w32:IntKind.wrap .i32 (n:Int)=(n:Int):=z75 (by omega) (by omega)
 have z:decide ((n:Int)<0)=false:=nneg n
 have l1:decide ((0:Int)<((([(n:Int)]:List Int).length:Nat):Int))=true:=rfl
 have l2:decide ((IntKind.wrap .i64 ((0:Int)+1))<((([(n:Int)]:List Int).length:Nat):Int))=false:=rfl
 rw [z4w]
 have q40:=zqu (Ev.upto (M+1+1+1)) n
 by_cases hp:pt n=true
 ·have hn:n≤1114111:=by simp [pt]at hp;omega
  have g:decide ((n:Int)>1114111)=false:=by simp;omega
  obtain⟨r,hr⟩:=zdi (Ev.upto (M+1+1+1)) n hn hp
  simp -implicitDefEqProofs only [bp,i0,z,g,l1,l2,cond_true,cond_false,beq_self_eq_true,Option.bind_some,w32]
  simp -implicitDefEqProofs only [q40,hp,Bool.not_true,cond_true,cond_false,Option.bind_some,w32]
  simp -implicitDefEqProofs only [hr,l2,Option.bind_some,cond_false]
  rw [bj]
  rfl
 ·have hp':pt n=false:=by simpa using hp
  by_cases hn:n≤1114111
  ·have g:decide ((n:Int)>1114111)=false:=by simp;omega
   simp -implicitDefEqProofs only [bp,i0,z,g,l1,l2,cond_true,cond_false,beq_self_eq_true,Option.bind_some,w32]
   simp -implicitDefEqProofs only [q40,hp',Bool.not_false,cond_true,cond_false,Option.bind_some]
  ·have g:decide ((n:Int)>1114111)=true:=by simp;omega
   simp -implicitDefEqProofs only [bp,i0,z,g,l1,l2,cond_true,cond_false,beq_self_eq_true,Option.bind_some,w32,hp',show (true==false)=false from rfl]
def dv (c:Nat):Nat:=if 48≤c∧c≤57 then c-48 else if 97≤c∧c≤102 then c-87 else if 65≤c∧c≤70 then c-55 else 99
def nums (base:Nat):Bs→Nat→Option Nat
 | [],n=>some n
 | c::r,n=>if dv c.toNat<base then nums base r (n*base+dv c.toNat) else none
def zph (base most:Nat) (s:Bs):Option Nat:=if s.length<1∨most<s.length then none else nums base s 0
def lowr (c:Nat):Nat:=if (c/32)%2=0 then c+32 else c
theorem zpi:∀c:Fin 256,(z7 (Ev.upto 0) (((c.val:Int),()),()):Option ((Int×Unit)×Unit))=some (((lowr c.val:Int),()),()):=by decide +kernel
theorem zqv (V:Ev) (c:Nat) (h:c<256):z7 V (((c:Int),()),())=some (((lowr c:Int),()),()):=zpi ⟨c,h⟩
theorem dvA:∀c:Fin 256,48≤c.val∧c.val≤57→dv c.val=c.val-48:=by decide +kernel
theorem ycl:∀c:Fin 256,¬(48≤c.val∧c.val≤57)→¬dv c.val<10:=by decide +kernel
theorem ycm:∀c:Fin 256,¬(48≤c.val∧c.val≤57)→97≤lowr c.val→lowr c.val≤122→(lowr c.val-87<16↔dv c.val<16)∧(dv c.val<16→dv c.val=lowr c.val-87):=by decide +kernel
theorem ycn:∀c:Fin 256,¬(48≤c.val∧c.val≤57)→¬(97≤lowr c.val∧lowr c.val≤122)→¬dv c.val<16:=by decide +kernel
theorem fl (a b:Bool):(bif a==true then b else false)=(a&&b):=by cases a<;>rfl
theorem z6y {s:Bs} {i:Nat} (h:i<s.length):(ofBs s)[i]? = some ((s[i].toNat:Nat):Int):=by
 simp [ofBs,h]
theorem zl7 (N:Nat) (hN:8<N) (base:Nat) (hb:base=10∨base=16) (s:Bs) (h0:s ≠ []) (h7:s.length≤7) :
  wp (va (Ev.upto N) ((s,((base:Int),((64:Int),()))),())) (fun r=>match nums base s 0 with | some n=>r=(((n:Int),(none,())),()) | none=>∃x,r=((x,(some (2:Int),())),())):=by
 unfold va
 have e0:(s==([]:Bs))=false:=by simpa using h0
 have b2:decide ((2:Int)≤(base:Int))=true:=by simp;omega
 have b36:decide ((base:Int)≤36)=true:=by simp;omega
 have bz:((base:Int)==0)=false:=by rw [beq_eq_false_iff_ne];omega
 have w64:IntKind.wrap .u64 (64:Int)=64:=zl5 (by decide) (by decide)
 have mv:IntKind.wrap .u64 (IntKind.wrap .u64 ((1:Int)*2^(min (Int.toNat (64:Int)) 64))-1)=18446744073709551615:=by decide +kernel
 simp -implicitDefEqProofs only [e0,b2,b36,bz,w64,mv,cond_true,cond_false,Option.bind_some,beq_self_eq_true,show ((64:Int)==0)=false from rfl,show decide ((64:Int)<0)=false from rfl,show decide ((64:Int)>64)=false from rfl,show decide ((0:Int)≤64)=true from rfl]
 refine zew (fun o=>∃cut:Int,1152921504606846976≤cut∧o=((s,((base:Int),((64:Int),(false,(s,(cut,())))))),())) ?_ ?_
 ·rcases hb with rfl | rfl
  ·exact⟨_,rfl,1844674407370955162,by decide,rfl⟩
  ·exact⟨_,rfl,1152921504606846976,by decide,rfl⟩
 rintro _ ⟨cut,hcut,rfl⟩
 simp -implicitDefEqProofs only [w64,mv,cond_true,show decide ((0:Int)≤64)=true from rfl]
 refine zc6 ?_
 have hb16:base≤16:=by omega
 have wb64:IntKind.wrap .u64 (base:Int)=(base:Int):=zl5 (by omega) (by omega)
 have wb8:IntKind.wrap .u8 (base:Int)=(base:Int):=zuh (by omega) (by omega)
 refine zrk (σ:=Nat) (fun i n=>(((base:Int),(false,(s,(cut,((18446744073709551615:Int),(false,((n:Int),((((ofBs s).length:Nat):Int),((i:Int),()))))))))),(ofBs s,()))) (fun i n=>n<16^i∧nums base (s.drop i) n=nums base s 0) s.length 0 rfl ⟨by decide,by simp⟩ (by omega) ?_
 rintro i n hi ⟨hn,hv⟩
 have hp7:16^i≤16^7:=Nat.pow_le_pow_right (by decide) (by omega)
 have hc3:decide ((i:Int)<(((ofBs s).length:Nat):Int))=decide (i<s.length):=decide_eq_decide.2 (by rw [zn];omega)
 by_cases hi':i<s.length
 ·have hc:=z87 s[i]
  have ht:decide (i<s.length)=true:=decide_eq_true hi'
  have h00:decide ((0:Int)≤(i:Int))=true:=decide_eq_true (by omega)
  rw [List.drop_eq_getElem_cons hi',nums]at hv
  simp -implicitDefEqProofs only [hc3,ht,h00,Bool.true_and,cond_true,Int.toNat_natCast,z6y hi',Option.bind_some,zsk,zsl,zsm,Bool.cond_self,cond_false,fl]
  by_cases hA:48≤s[i].toNat∧s[i].toNat≤57
  ·have a1:decide ((48:Int)≤((s[i].toNat:Nat):Int))=true:=decide_eq_true (by omega)
   have a2:decide (((s[i].toNat:Nat):Int)≤57)=true:=decide_eq_true (by omega)
   have a3:IntKind.wrap .u8 (((s[i].toNat:Nat):Int)-48)=((s[i].toNat-48:Nat):Int):=by rw [zuh (by omega) (by omega)];omega
   simp -implicitDefEqProofs only [a1,a2,a3,Bool.true_and,cond_true,Option.bind_some]
   have hdv:dv s[i].toNat=s[i].toNat-48:=dvA ⟨s[i].toNat,hc⟩ hA
   have hde:dv s[i].toNat<base→s[i].toNat-48=dv s[i].toNat:=fun _=>hdv.symm
   by_cases hd:dv s[i].toNat<base
   ·have hD:(s[i].toNat-48)=dv s[i].toNat:=hde hd
    have t1:decide ((((s[i].toNat-48):Nat):Int)≥IntKind.wrap .u8 (base:Int))=false:=by rw [wb8];exact decide_eq_false (by omega)
    have t2:decide ((n:Int)≥cut)=false:=decide_eq_false (by omega)
    have hmul:n*base+(s[i].toNat-48)<16^(i+1):=by
     have:(n+1)*base≤16^i*16:=Nat.mul_le_mul (by omega) hb16
     rw [Nat.succ_mul]at this
     rw [Nat.pow_succ];omega
    have hp8:16^(i+1)≤16^8:=Nat.pow_le_pow_right (by decide) (by omega)
    have hm0:((n:Int)*(base:Int))=((n*base:Nat):Int):=by simp
    have u1:IntKind.wrap .u64 ((n:Int)*(base:Int))=((n*base:Nat):Int):=by rw [hm0];exact zl5 (by omega) (by omega)
    have u2:IntKind.wrap .u64 (((s[i].toNat-48):Nat):Int)=(((s[i].toNat-48):Nat):Int):=zl5 (by omega) (by omega)
    have u3:IntKind.wrap .u64 (((n*base:Nat):Int)+(((s[i].toNat-48):Nat):Int))=((n*base+(s[i].toNat-48):Nat):Int):=by rw [zl5 (by omega) (by omega)];omega
    have t4:decide (((n*base+(s[i].toNat-48):Nat):Int)<((n*base:Nat):Int))=false:=decide_eq_false (by omega)
    have t5:decide (((n*base+(s[i].toNat-48):Nat):Int)>18446744073709551615)=false:=decide_eq_false (by omega)
    have wi:IntKind.wrap .i64 ((i:Int)+1)=((i+1:Nat):Int):=by rw [jm (by omega) (by omega)];omega
    simp -implicitDefEqProofs only [t1,t2,wb64,u1,u2,u3,t4,t5,wi,beq_self_eq_true,cond_true,cond_false]
    exact⟨_,rfl,hi',n*base+(s[i].toNat-48),rfl,hmul,by rw [←hv,if_pos hd,hD]⟩
   ·have t1:decide ((((s[i].toNat-48):Nat):Int)≥IntKind.wrap .u8 (base:Int))=true:=by rw [wb8];exact decide_eq_true (by omega)
    rw [if_neg hd]at hv
    simp -implicitDefEqProofs only [t1,cond_true]
    refine⟨_,rfl,?_⟩
    rw [←hv]
    exact⟨_,rfl,_,rfl⟩
  ·have a1:(decide ((48:Int)≤((s[i].toNat:Nat):Int))&&decide (((s[i].toNat:Nat):Int)≤57))=false:=by
    by_cases h1:48≤s[i].toNat
    ·rw [show decide (((s[i].toNat:Nat):Int)≤57)=false from decide_eq_false (by omega),Bool.and_false]
    ·rw [show decide ((48:Int)≤((s[i].toNat:Nat):Int))=false from decide_eq_false (by omega),Bool.false_and]
   have q58:=zqv (Ev.upto N) s[i].toNat hc
   have hl256:lowr s[i].toNat<256+32:=by unfold lowr;split<;>omega
   simp -implicitDefEqProofs only [a1,cond_false]
   simp -implicitDefEqProofs only [q58,Option.bind_some,zsk,fl,zsl,zsm,Bool.cond_self]
   by_cases hB:97≤lowr s[i].toNat∧lowr s[i].toNat≤122
   ·have b1:decide ((97:Int)≤((lowr s[i].toNat:Nat):Int))=true:=decide_eq_true (by omega)
    have b2:decide (((lowr s[i].toNat:Nat):Int)≤122)=true:=decide_eq_true (by omega)
    have b3:IntKind.wrap .u8 (IntKind.wrap .u8 (((lowr s[i].toNat:Nat):Int)-97)+10)=((lowr s[i].toNat-87:Nat):Int):=by
     rw [zuh (n:=_-97) (by omega) (by omega),zuh (by omega) (by omega)];omega
    simp -implicitDefEqProofs only [b1,b2,b3,Bool.true_and,cond_true,Option.bind_some]
    have h16:=ycm ⟨s[i].toNat,hc⟩ hA hB.1 hB.2
    have h10:=ycl ⟨s[i].toNat,hc⟩ hA
    simp only at h16 h10
    have hde:dv s[i].toNat<base→lowr s[i].toNat-87=dv s[i].toNat:=fun h=>by
     have:=h16.2;omega
    have hdn:¬dv s[i].toNat<base→¬lowr s[i].toNat-87<base:=fun h=>by
     have:=h16.1
     rcases hb with rfl | rfl
     ·omega
     ·omega
    by_cases hd:dv s[i].toNat<base
    ·have hD:(lowr s[i].toNat-87)=dv s[i].toNat:=hde hd
     have t1:decide ((((lowr s[i].toNat-87):Nat):Int)≥IntKind.wrap .u8 (base:Int))=false:=by rw [wb8];exact decide_eq_false (by omega)
     have t2:decide ((n:Int)≥cut)=false:=decide_eq_false (by omega)
     have hmul:n*base+(lowr s[i].toNat-87)<16^(i+1):=by
      have:(n+1)*base≤16^i*16:=Nat.mul_le_mul (by omega) hb16
      rw [Nat.succ_mul]at this
      rw [Nat.pow_succ];omega
     have hp8:16^(i+1)≤16^8:=Nat.pow_le_pow_right (by decide) (by omega)
     have hm0:((n:Int)*(base:Int))=((n*base:Nat):Int):=by simp
     have u1:IntKind.wrap .u64 ((n:Int)*(base:Int))=((n*base:Nat):Int):=by rw [hm0];exact zl5 (by omega) (by omega)
     have u2:IntKind.wrap .u64 (((lowr s[i].toNat-87):Nat):Int)=(((lowr s[i].toNat-87):Nat):Int):=zl5 (by omega) (by omega)
     have u3:IntKind.wrap .u64 (((n*base:Nat):Int)+(((lowr s[i].toNat-87):Nat):Int))=((n*base+(lowr s[i].toNat-87):Nat):Int):=by rw [zl5 (by omega) (by omega)];omega
     have t4:decide (((n*base+(lowr s[i].toNat-87):Nat):Int)<((n*base:Nat):Int))=false:=decide_eq_false (by omega)
     have t5:decide (((n*base+(lowr s[i].toNat-87):Nat):Int)>18446744073709551615)=false:=decide_eq_false (by omega)
     have wi:IntKind.wrap .i64 ((i:Int)+1)=((i+1:Nat):Int):=by rw [jm (by omega) (by omega)];omega
     simp -implicitDefEqProofs only [t1,t2,wb64,u1,u2,u3,t4,t5,wi,beq_self_eq_true,cond_true,cond_false]
     exact⟨_,rfl,hi',n*base+(lowr s[i].toNat-87),rfl,hmul,by rw [←hv,if_pos hd,hD]⟩
    ·have t1:decide ((((lowr s[i].toNat-87):Nat):Int)≥IntKind.wrap .u8 (base:Int))=true:=by rw [wb8];exact decide_eq_true (by omega)
     rw [if_neg hd]at hv
     simp -implicitDefEqProofs only [t1,cond_true]
     refine⟨_,rfl,?_⟩
     rw [←hv]
     exact⟨_,rfl,_,rfl⟩
   ·have b1:(decide ((97:Int)≤((lowr s[i].toNat:Nat):Int))&&decide (((lowr s[i].toNat:Nat):Int)≤122))=false:=by
     by_cases h1:97≤lowr s[i].toNat
     ·rw [show decide (((lowr s[i].toNat:Nat):Int)≤122)=false from decide_eq_false (by omega),Bool.and_false]
     ·rw [show decide ((97:Int)≤((lowr s[i].toNat:Nat):Int))=false from decide_eq_false (by omega),Bool.false_and]
    simp -implicitDefEqProofs only [b1,cond_false,Option.bind_some]
    have h16:=ycn ⟨s[i].toNat,hc⟩ hA hB
    simp only at h16
    rw [if_neg (by omega)]at hv
    refine⟨_,rfl,?_⟩
    rw [←hv]
    exact⟨_,rfl,_,rfl⟩
 ·have ht:decide (i<s.length)=false:=decide_eq_false hi'
  simp -implicitDefEqProofs only [hc3,ht,cond_false]
  refine⟨_,rfl,?_⟩
  rw [List.drop_eq_nil_of_le (by omega),nums]at hv
  rw [←hv]
  exact⟨_,rfl,rfl⟩
theorem zm7 (N:Nat) (hN:8<N) (base:Nat) (hb:base=10∨base=16) (c:UInt8) (r:Bs) (h7:(c::r).length≤7) (hp:(((c.toNat:Nat):Int)==43)=false) (hm:(((c.toNat:Nat):Int)==45)=false) :
  wp (ue (Ev.upto N) ((c::r,((base:Int),((64:Int),()))),())) (fun x=>match nums base (c::r) 0 with | some n=>x=(((n:Int),(none,())),()) | none=>∃y,x=((y,(some (2:Int),())),())):=by
 unfold ue
 have e0:((c::r)==([]:Bs))=false:=rfl
 simp -implicitDefEqProofs only [e0,cond_false,zx0,Option.bind_some,hp,hm]
 refine zew _ (zl7 N hN base hb (c::r) (by simp) h7) ?_
 intro x hx
 cases hn:nums base (c::r) 0 with
 | none=>
  rw [hn]at hx
  obtain⟨y,rfl⟩:=hx
  have k:((some (2:Int))==(some (1:Int)))=false:=rfl
  simp -implicitDefEqProofs only [Option.isSome_some,beq_self_eq_true,cond_true,k,Bool.not_false,Option.bind_some]
  exact⟨_,rfl,_,rfl⟩
 | some n=>
  rw [hn]at hx
  subst hx
  have hlt:n<16^7:=by
   have key:∀(s:Bs) (m k:Nat),m<16^k→nums base s m=some n→n<16^(k+s.length):=by
    intro s
    induction s with
    | nil=>intro m k hm h;simp only [nums,Option.some.injEq]at h;subst h;simpa using hm
    | cons a t ih=>
     intro m k hm h
     rw [nums]at h
     split at h
     ·have:=ih (m*base+dv a.toNat) (k+1) (by
       have:(m+1)*base≤16^k*16:=Nat.mul_le_mul (by omega) (by omega)
       rw [Nat.succ_mul]at this
       rw [Nat.pow_succ];omega) h
      rw [List.length_cons];rw [show k+(t.length+1)=k+1+t.length by omega];exact this
     ·cases h
   have:=key (c::r) 0 0 (by decide) hn
   have h2:16^(0+(c::r).length)≤16^7:=Nat.pow_le_pow_right (by decide) (by omega)
   omega
  have w63:IntKind.wrap .u64 (IntKind.wrap .i64 ((64:Int)-1))=63:=by decide +kernel
  have w2:IntKind.wrap .u64 ((1:Int)*2^(min (Int.toNat (63:Int)) 64))=9223372036854775808:=by decide +kernel
  have c1:decide ((n:Int)≥9223372036854775808)=false:=decide_eq_false (by omega)
  have c3:IntKind.wrap .i64 (n:Int)=(n:Int):=jm (by omega) (by omega)
  simp -implicitDefEqProofs only [Option.isSome_none,show (false==true)=false from rfl,cond_false,cond_true,Option.bind_some,show ((64:Int)==0)=false from rfl,w63,w2,c1,c3,Bool.not_false,beq_self_eq_true,show decide ((0:Int)≤63)=true from rfl]
  exact⟨_,rfl,rfl⟩
theorem zl8 (V:Ev) (s:Bs) (h:s.length≤100):wp (yx V ((s,()),())) (fun _=>True):=by
 unfold yx
 by_cases h0:s.length=0
 ·rw [show (((s.length:Nat):Int)==0)=true from by rw [h0];rfl,cond_true]
  exact⟨_,rfl,trivial⟩
 ·rw [show (((s.length:Nat):Int)==0)=false from by rw [beq_eq_false_iff_ne];omega,cond_false]
  have a1:decide ((0:Int)≤((s.length:Nat):Int))=true:=decide_eq_true (by omega)
  have a2:fits s.length 1=true:=zc7 (by omega)
  have a3:decide (s.length≤(List.replicate s.length (0:Int)).length)=true:=by simp
  have a4:(ofBs s++List.drop s.length (List.replicate s.length (0:Int))).length=s.length:=by simp [ofBs]
  have a5:decide ((0:Int)<((s.length:Nat):Int))=true:=decide_eq_true (by omega)
  have a6:decide ((0:Int)≤(0:Int))=true:=rfl
  simp -implicitDefEqProofs only [Int.toNat_natCast]
  rw [a1,a2,a3,a4,a5,a6]
  simp -implicitDefEqProofs only [beq_self_eq_true,Bool.and_self,Bool.and_true,cond_true]
  exact⟨_,rfl,trivial⟩
theorem zn2 (N:Nat) (hN:8<N) (base:Nat) (hb:base=10∨base=16) (c:UInt8) (r:Bs) (h7:(c::r).length≤7) (hp:(((c.toNat:Nat):Int)==43)=false) (hm:(((c.toNat:Nat):Int)==45)=false) :
  wp (ux (Ev.upto N) ((c::r,((base:Int),((64:Int),()))),())) (fun x=>match nums base (c::r) 0 with | some n=>x=(((n:Int),(false,())),()) | none=>∃y,x=((y,(true,())),())):=by
 unfold ux
 refine zew _ (zm7 N hN base hb c r h7 hp hm) ?_
 intro x hx
 cases hn:nums base (c::r) 0 with
 | none=>
  rw [hn]at hx
  obtain⟨y,rfl⟩:=hx
  simp -implicitDefEqProofs only [Option.isSome_some,cond_true]
  refine zew (fun r=>r=((true,()),())) ?_ ?_
  ·unfold gp wt
   simp -implicitDefEqProofs only [beq_self_eq_true,cond_true]
   refine zew (fun _=>True) ?_ (fun _ _=>⟨_,rfl,rfl⟩)
   exact zew (fun _=>True) (zl8 _ _ (by omega)) (fun _ _=>⟨_,rfl,trivial⟩)
  ·rintro _ rfl
   exact⟨_,rfl,_,rfl⟩
 | some n=>
  rw [hn]at hx
  subst hx
  simp -implicitDefEqProofs only [Option.isSome_none,cond_false]
  exact⟨_,rfl,rfl⟩
theorem zuk:∀(s:Bs) (c:UInt8),Lib.index s [c]=Lib.indexByte s c
 | [],c=>rfl
 | b::s,c=>by
  have h:([c]:Bs).isPrefixOf (b::s)=(b==c):=by
   show (c==b&&List.isPrefixOf [] s)=(b==c)
   rw [show List.isPrefixOf ([]:Bs) s=true from by cases s<;>rfl,Bool.and_true]
   exact Bool.beq_comm
  rw [Lib.index,Lib.indexByte,h,zuk s c]
theorem zll (V:Ev) (s:Bs) (c:UInt8) (h:s.length≤1000000):xi V ((s,([c],())),())=some ((Lib.indexByte s c,()),()):=by
 unfold xi zwp
 simp -implicitDefEqProofs only [show decide (s.length<4294967281)=true from decide_eq_true (by omega),cond_true,zuk]
theorem zn3 (V:Ev) (s:Bs) (c:UInt8) (h:s.length≤1000000):uv V ((s,([c],())),())=some ((decide (Lib.indexByte s c≥0),()),()):=by
 unfold uv zdu xi zwp
 simp -implicitDefEqProofs only [show decide (s.length<4294967281)=true from decide_eq_true (by omega),cond_true,Option.bind_some,zuk]
theorem z4y (base:Nat) (hb:base≤16):∀(s:Bs) (n:Nat),(95:UInt8)∈s→nums base s n=none
 | c::r,n,h=>by
  rw [nums]
  split
  ·rename_i hd
   rcases List.mem_cons.1 h with rfl | h
   ·have:dv (95:UInt8).toNat=99:=by decide
    omega
   ·exact z4y base hb r _ h
  ·rfl
theorem zkx (N:Nat) (hN:8<N) (base most:Nat) (hb:base=10∨base=16) (hm:most≤7) (s:Bs) :
  wp (bn (Ev.upto N) ((s,((base:Int),((most:Int),()))),())) (fun x=>match zph base most s with | some n=>x=(((n:Int),(true,())),()) | none=>∃y,x=((y,(false,())),())):=by
 unfold bn
 by_cases hs:s.length<1∨most<s.length
 ·have e:zph base most s=none:=by unfold zph;rw [if_pos hs]
  rw [e]
  refine zew (fun o=>o=((s,((base:Int),(true,()))),())) ?_ ?_
  ·cases s with
   | nil=>exact⟨_,rfl,rfl⟩
   | cons c r=>
    have e0:((c::r)==([]:Bs))=false:=rfl
    have:decide ((((c::r).length:Nat):Int)>(most:Int))=true:=decide_eq_true (by
     rcases hs with hs | hs
     ·simp at hs
     ·omega)
    simp -implicitDefEqProofs only [e0,this,beq_self_eq_true,cond_true,show (true==false)=false from rfl,cond_false]
    exact⟨_,rfl,rfl⟩
  ·rintro _ rfl
   exact⟨_,rfl,_,rfl⟩
 ·have e:zph base most s=nums base s 0:=by unfold zph;rw [if_neg hs]
  rw [e]
  cases s with
  | nil=>simp at hs
  | cons c r=>
   have e0:((c::r)==([]:Bs))=false:=rfl
   have e1:decide ((((c::r).length:Nat):Int)>(most:Int))=false:=decide_eq_false (by omega)
   have h7:(c::r).length≤7:=by omega
   have q38:=zn3 (Ev.upto N) (c::r) 95 (by omega)
   simp -implicitDefEqProofs only [e0,e1,beq_self_eq_true,cond_true,zx0,Option.bind_some]
   have bad:∀k:Nat,c.toNat=k→(k=43∨k=45)→nums base (c::r) 0=none:=fun k hk h=>by
    rw [nums,if_neg]
    rw [hk]
    rcases h with rfl | rfl
    ·have:dv 43=99:=by decide
     omega
    ·have:dv 45=99:=by decide
     omega
   cases hp:(((c.toNat:Nat):Int)==43) with
   | true=>
    have hc:c.toNat=43:=by have:=hp;simp only [beq_iff_eq]at this;omega
    rw [bad 43 hc (.inl rfl)]
    exact⟨_,rfl,_,rfl⟩
   | false=>
    cases hm':(((c.toNat:Nat):Int)==45) with
    | true=>
     have hc:c.toNat=45:=by have:=hm';simp only [beq_iff_eq]at this;omega
     rw [bad 45 hc (.inr rfl)]
     exact⟨_,rfl,_,rfl⟩
    | false=>
     simp -implicitDefEqProofs only [beq_self_eq_true,cond_true]
     rw [q38]
     simp -implicitDefEqProofs only [Option.bind_some]
     by_cases h95:(95:UInt8)∈c::r
     ·have:decide (Lib.indexByte (c::r) 95≥0)=true:=by
       have:=(not_congr (zfh (c::r) 95)).2 (fun h=>h h95)
       exact decide_eq_true (by omega)
      rw [this,z4y base (by omega) _ _ h95]
      exact⟨_,rfl,_,rfl⟩
     ·have:decide (Lib.indexByte (c::r) 95≥0)=false:=by
       have:=(zfh (c::r) 95).2 h95
       exact decide_eq_false (by omega)
      rw [this]
      simp -implicitDefEqProofs only [cond_false]
      refine zew _ (zn2 N hN base hb c r h7 hp hm') ?_
      intro x hx
      cases hn:nums base (c::r) 0 with
      | none=>
       rw [hn]at hx
       obtain⟨y,rfl⟩:=hx
       exact⟨_,rfl,_,rfl⟩
      | some n=>
       rw [hn]at hx
       subst hx
       exact⟨_,rfl,rfl⟩
def z4z:Bs→Option Nat
 | []=>none
 | c::r=>if c.toNat=120∨c.toNat=88 then zph 16 6 r else zph 10 7 (c::r)
def sgOf:Option Nat→Bs×Bool×Bool
 | none=>([],false,true)
 | some n=>if n=0∨pt n=false then (utf 65533,true,false) else (utf n,true,true)
def sgT:Bs→Bs×Bool×Bool
 | []=>([],false,true)
 | c::d=>if c=35 then sgOf (z4z d) else ([],false,true)
def sg (s:Bs):Bs×Bool×Bool:=if (nm s).2=true then ((nm s).1,true,true) else sgT s
theorem z13 {base most:Nat} (hb:base≤16) (hm:most≤7) {s:Bs} {n:Nat} (h:zph base most s=some n):n<268435456∧s.length≤most:=by
 unfold zph at h
 split at h
 ·cases h
 ·rename_i hs
  have key:∀(s:Bs) (m k:Nat),m<16^k→nums base s m=some n→n<16^(k+s.length):=by
   intro s
   induction s with
   | nil=>intro m k hm h;simp only [nums,Option.some.injEq]at h;subst h;simpa using hm
   | cons a t ih=>
    intro m k hm h
    rw [nums]at h
    split at h
    ·have:=ih (m*base+dv a.toNat) (k+1) (by
      have:(m+1)*base≤16^k*16:=Nat.mul_le_mul (by omega) (by omega)
      rw [Nat.succ_mul]at this
      rw [Nat.pow_succ];omega) h
     rw [List.length_cons];rw [show k+(t.length+1)=k+1+t.length by omega];exact this
    ·cases h
  have:=key s 0 0 (by decide) h
  have h2:16^(0+s.length)≤16^7:=Nat.pow_le_pow_right (by decide) (by omega)
  omega
theorem z6z (o:Option Nat):(sgOf o).1.length≤4:=by
 cases o with
 | none=>simp [sgOf]
 | some n=>simp only [sgOf];split<;>exact z88 _
theorem z76 (s:Bs):(sg s).1.length≤4:=by
 unfold sg
 split
 ·exact Nat.le_trans (yay s) (by decide)
 ·cases s with
  | nil=>simp [sgT]
  | cons c d=>
   simp only [sgT]
   split
   ·exact z6z _
   ·simp
theorem zm8 (V:Ev) (s:Bs):ua V ((s,(([35]:Bs),())),())=some ((match s with | []=>((s,(false,())):Bs×Bool×Unit) | c::d=>if c=35 then (d,(true,())) else (s,(false,()))),()):=by
 unfold ua wq wo
 cases s with
 | nil=>rfl
 | cons c d=>
  have l:decide ((((c::d).length:Nat):Int)≥((([35]:Bs).length:Nat):Int))=true:=decide_eq_true (by simp only [List.length_cons,List.length_nil];omega)
  have s1:sl (c::d) 0 ((([35]:Bs).length:Nat):Int)=some [c]:=by
   have:=zeh (l:=c::d) (a:=0) (b:=1) (by decide) (by simp)
   simpa using this
  have s2:sl (c::d) ((([35]:Bs).length:Nat):Int) (((c::d).length:Nat):Int)=some d:=by
   have:=zkw (l:=c::d) (a:=1) (by simp)
   simpa using this
  simp -implicitDefEqProofs only [l,s1,s2,beq_self_eq_true,cond_true,Option.bind_some]
  by_cases h:c=35
  ·subst h
   simp -implicitDefEqProofs only [beq_self_eq_true,Bool.not_true,cond_false,if_true,Option.bind_some]
  ·have:(([c]:Bs) == [35])=false:=by rw [beq_eq_false_iff_ne];intro h2;exact h (by simpa using h2)
   simp -implicitDefEqProofs only [this,Bool.not_false,cond_true,if_neg h,Option.bind_some,Bool.not_true]
theorem z9a {α:Type} (c:α) (r:List α):sl (c::r) 1 (((c::r).length:Nat):Int)=some r:=by
 have:=zkw (l:=c::r) (a:=1) (by simp)
 simpa using this
theorem zvy (N:Nat) (hN:8<N) (s:Bs):zd9 (Ev.upto N) ((s,()),())=some (((sg s).1,((sg s).2.1,((sg s).2.2,()))),()):=by
 apply zr9
 unfold zd9
 have q11:=zvx (Ev.upto N) s
 have q29:=zm8 (Ev.upto N) s
 rw [q11]
 simp -implicitDefEqProofs only [Option.bind_some]
 unfold sg
 by_cases h1:(nm s).2=true
 ·rw [h1,if_pos rfl]
  exact⟨_,rfl,rfl⟩
 have h1':(nm s).2=false:=by simpa using h1
 rw [h1',if_neg (by decide),cond_false,q29]
 cases s with
 | nil=>exact⟨_,rfl,rfl⟩
 | cons c d=>
  by_cases hc:c=35
  ·simp -implicitDefEqProofs only [sgT,if_pos hc,Option.bind_some,Bool.not_true,cond_false]
   refine zew _ (zkx N hN 10 7 (.inl rfl) (by decide) d) ?_
   intro x hx
   have tail:∀(o:Option Nat) (b:Int) (ok:Bool),(match o with | some n=>b=(n:Int)∧ok=true | none=>ok=false)→(∀n,o=some n→n<268435456) →
     wp ((bif (!ok) then (some ((([]:Bs),(false,(true,()))),())) else ((zcx (Ev.upto N) ((([b]:List Int),()),())).bind fun v10=>((bif ((b==(0:Int))==false) then (some ((v10.1.1,((v10.1.2.1 != (0:Int)),())),())) else (some ((v10.1.1,(true,())),()))).bind fun o11=>(bif o11.1.2.1 then ((zcx (Ev.upto N) ((([(65533:Int)]:List Int),()),())).bind fun v12=>(some ((v12.1.1,(true,(false,()))),()))) else (some ((o11.1.1,(true,(true,()))),()))))))) (fun x=>x=(((sgOf o).1,((sgOf o).2.1,((sgOf o).2.2,()))),())):=by
    intro o b ok h hlt
    cases o with
    | none=>
     simp only at h
     subst h
     exact⟨_,rfl,rfl⟩
    | some n=>
     obtain⟨rfl,rfl⟩:=h
     have q31:=zuj N (by omega) n (by have:=hlt n rfl;omega)
     have q31o:=zuj N (by omega) 65533 (by decide)
     rw [Bool.not_true,cond_false,q31]
     have hpo:pt 65533=true:=by decide
     have q31o':zcx (Ev.upto N) ((([(65533:Int)]:List Int),()),())=some ((utf 65533,((0:Int),())),()):=by
      have:=q31o
      rw [hpo]at this
      exact this
     simp only [sgOf]
     by_cases hz:n=0
     ·subst hz
      rw [if_pos (.inl rfl)]
      have hp0:pt 0=true:=by decide
      rw [hp0]
      simp -implicitDefEqProofs only [cond_true,Option.bind_some,show ((((0:Nat):Int)==0)==false)=false from rfl,cond_false,q31o']
      exact⟨_,rfl,rfl⟩
     ·have hz':(((n:Nat):Int)==0)=false:=by rw [beq_eq_false_iff_ne];omega
      cases hp:pt n with
      | true=>
       rw [if_neg (by simp [hz])]
       simp -implicitDefEqProofs only [cond_true,cond_false,Option.bind_some,hz',beq_self_eq_true,show ((0:Int) != 0)=false from rfl]
       exact⟨_,rfl,rfl⟩
      | false=>
       rw [if_pos (.inr rfl)]
       simp -implicitDefEqProofs only [cond_true,cond_false,Option.bind_some,hz',beq_self_eq_true,show ((1:Int) != 0)=true from rfl,q31o']
       exact⟨_,rfl,rfl⟩
   cases d with
   | nil=>
    have e:zph 10 7 []=none:=rfl
    rw [e]at hx
    obtain⟨y,rfl⟩:=hx
    exact⟨_,rfl,rfl⟩
   | cons c' r=>
    have e0:((c'::r)==([]:Bs))=false:=rfl
    simp -implicitDefEqProofs only [e0,Bool.not_false,beq_self_eq_true,cond_true,zx0,Option.bind_some]
    by_cases hx1:c'.toNat=120∨c'.toNat=88
    ·have hcond:∀A B C:Option ((Bs×Bool×Int×Bool×Unit)×Unit),True:=fun _ _ _=>trivial
     have e16:z4z (c'::r)=zph 16 6 r:=by simp only [z4z,if_pos hx1]
     rw [e16]
     refine zew (fun o=>∃u v,o=((c'::r,(u,(v,(true,())))),())) ?_ ?_
     ·rcases hx1 with hx1 | hx1
      ·rw [hx1];exact⟨_,rfl,_,_,rfl⟩
      ·rw [hx1];exact⟨_,rfl,_,_,rfl⟩
     ·rintro _ ⟨u,v,rfl⟩
      simp -implicitDefEqProofs only [cond_true,z9a,Option.bind_some]
      refine zc6 ?_
      refine zew _ (zkx N hN 16 6 (.inr rfl) (by decide) r) ?_
      intro x hx
      cases hn:zph 16 6 r with
      | none=>
       rw [hn]at hx
       obtain⟨y,rfl⟩:=hx
       exact⟨_,rfl,tail none y false rfl (fun _ h=>by cases h)⟩
      | some n=>
       rw [hn]at hx
       subst hx
       exact⟨_,rfl,tail (some n) n true ⟨rfl,rfl⟩ (fun m h=>by cases h;exact(z13 (by decide) (by decide) hn).1)⟩
    ·have e10:z4z (c'::r)=zph 10 7 (c'::r):=by simp only [z4z,if_neg hx1]
     have n1:(((c'.toNat:Nat):Int)==120)=false:=by rw [beq_eq_false_iff_ne];omega
     have n2:(((c'.toNat:Nat):Int)==88)=false:=by rw [beq_eq_false_iff_ne];omega
     rw [e10]
     simp -implicitDefEqProofs only [n1,n2,beq_self_eq_true,cond_true,cond_false,Option.bind_some]
     cases hn:zph 10 7 (c'::r) with
     | none=>
      rw [hn]at hx
      obtain⟨y,rfl⟩:=hx
      exact tail none y false rfl (fun _ h=>by cases h)
     | some n=>
      rw [hn]at hx
      subst hx
      exact tail (some n) n true ⟨rfl,rfl⟩ (fun m h=>by cases h;exact(z13 (by decide) (by decide) hn).1)
  ·simp -implicitDefEqProofs only [sgT,if_neg hc,Option.bind_some,Bool.not_false,cond_true]
   exact⟨_,rfl,rfl⟩
def zm9:Bs→Option (Bs×Bs)
 | []=>none
 | c::r=>if c=59 then some ([],r) else match zm9 r with | none=>none | some p=>some (c::p.1,p.2)
theorem z14:∀(x y:Bs),(59:UInt8)∉x→zm9 (x++59::y)=some (x,y)
 | [],y,_=>by simp [zm9]
 | c::x,y,h=>by
  have h1:¬c=59:=fun e=>h (by rw [e];exact List.mem_cons_self)
  have h2:(59:UInt8)∉x:=fun e=>h (List.mem_cons_of_mem _ e)
  rw [List.cons_append,zm9,if_neg h1,z14 x y h2]
theorem zwr:∀(x:Bs),(59:UInt8)∉x→zm9 x=none
 | [],_=>rfl
 | c::x,h=>by
  have h1:¬c=59:=fun e=>h (by rw [e];exact List.mem_cons_self)
  have h2:(59:UInt8)∉x:=fun e=>h (List.mem_cons_of_mem _ e)
  rw [zm9,if_neg h1,zwr x h2]
theorem zmr:∀(r:Bs) (p:Bs×Bs),zm9 r=some p→r=p.1++59::p.2∧(59:UInt8)∉p.1
 | [],_,h=>by cases h
 | c::r,p,h=>by
  rw [zm9]at h
  split at h
  ·rename_i h1;cases h;subst h1;exact⟨rfl,by simp⟩
  ·rename_i h1
   cases hr:zm9 r with
   | none=>rw [hr]at h;cases h
   | some q=>
    rw [hr]at h;cases h
    obtain⟨e,h2⟩:=zmr r q hr
    refine⟨by rw [List.cons_append,←e],fun h3=> ?_⟩
    rcases List.mem_cons.1 h3 with h3 | h3
    ·exact h1 h3.symm
    ·exact h2 h3
def sgAt (c:UInt8) (r:Bs):Option (Bs×Bs):=if c=38 then (match zm9 r with | none=>none | some p=>if (sg p.1).2.1=true then some p else none) else none
def bad (r:Bool) (at_:Int):List (Int×Int):=if r=true then [] else [(130,at_)]
def decB:Nat→Bs→Int→Bs×List (Int×Int)
 | 0,s,_=>(s,[])
 | _+1,[],_=>([],[])
 | f+1,c::r,at_=>match sgAt c r with
  | some p=>((sg p.1).1++(decB f p.2 (at_+p.1.length+2)).1,bad (sg p.1).2.2 at_++(decB f p.2 (at_+p.1.length+2)).2)
  | none=>(c::(decB f r (at_+1)).1,(decB f r (at_+1)).2)
theorem zpj {c:UInt8} {r:Bs} {p:Bs×Bs} (h:sgAt c r=some p):c=38∧r=p.1++59::p.2∧(59:UInt8)∉p.1∧(sg p.1).2.1=true:=by
 unfold sgAt at h
 split at h
 ·rename_i h1
  cases hr:zm9 r with
  | none=>rw [hr]at h;cases h
  | some q=>
   rw [hr]at h
   simp only at h
   split at h
   ·rename_i h2
    cases h
    exact⟨h1,(zmr r _ hr).1,(zmr r _ hr).2,h2⟩
   ·cases h
 ·cases h
theorem zul:∀(f g:Nat) (s:Bs) (at_:Int),s.length≤f→s.length≤g→decB f s at_=decB g s at_
 | 0,0,_,_,_,_=>rfl
 | 0,g+1,[],_,_,_=>rfl
 | f+1,0,[],_,_,_=>rfl
 | f+1,g+1,[],_,_,_=>rfl
 | 0,_,c::r,_,h,_=>by simp at h
 | _,0,c::r,_,_,h=>by simp at h
 | f+1,g+1,c::r,at_,hf,hg=>by
  simp only [decB]
  simp only [List.length_cons]at hf hg
  cases hp:sgAt c r with
  | none=>simp only [zul f g r (at_+1) (by omega) (by omega)]
  | some p=>
   have hl:p.2.length≤r.length:=by
    rw [(zpj hp).2.1];simp;omega
   simp only [zul f g p.2 (at_+p.1.length+2) (by omega) (by omega)]
def dec (s:Bs) (at_:Int):Bs×List (Int×Int):=decB s.length s at_
theorem z0q (at_:Int):dec [] at_=([],[]):=rfl
theorem z15 {c:UInt8} {r:Bs} {p:Bs×Bs} (h:sgAt c r=some p) (at_:Int):dec (c::r) at_=((sg p.1).1++(dec p.2 (at_+p.1.length+2)).1,bad (sg p.1).2.2 at_++(dec p.2 (at_+p.1.length+2)).2):=by
 have hl:p.2.length≤r.length:=by rw [(zpj h).2.1];simp;omega
 unfold dec
 simp only [List.length_cons,decB,h]
 rw [zul r.length p.2.length p.2 _ hl (Nat.le_refl _)]
theorem zpk {c:UInt8} {r:Bs} (h:sgAt c r=none) (at_:Int):dec (c::r) at_=(c::(dec r (at_+1)).1,(dec r (at_+1)).2):=by
 unfold dec
 simp only [List.length_cons,decB,h]
theorem z9b {c:UInt8} (r:Bs) (h:¬c=38):sgAt c r=none:=by unfold sgAt;rw [if_neg h]
theorem z0r:∀(x y:Bs) (at_:Int),(38:UInt8)∉x→dec (x++y) at_=(x++(dec y (at_+x.length)).1,(dec y (at_+x.length)).2)
 | [],y,at_,_=>by simp
 | c::x,y,at_,h=>by
  have h1:¬c=38:=fun e=>h (by rw [e];exact List.mem_cons_self)
  have h2:(38:UInt8)∉x:=fun e=>h (List.mem_cons_of_mem _ e)
  rw [List.cons_append,zpk (z9b _ h1),z0r x y _ h2]
  simp only [List.length_cons,List.cons_append]
  rw [show at_+1+(x.length:Int)=at_+((x.length+1:Nat):Int) by omega]
theorem z60 (x:Bs) (at_:Int) (h:(38:UInt8)∉x):dec x at_=(x,[]):=by
 have:=z0r x [] at_ h
 simpa [z0q] using this
theorem z9c (r:Bool) (a:Int):(bad r a).length≤1:=by unfold bad;split<;>simp
theorem zl9:∀(n:Nat) (s:Bs) (at_:Int),s.length≤n→(dec s at_).1.length≤4*s.length∧(dec s at_).2.length≤s.length
 | 0,s,at_,h=>by
  have:s = []:=List.eq_nil_of_length_eq_zero (by omega)
  subst this;simp [z0q]
 | n+1,[],at_,h=>by simp [z0q]
 | n+1,c::r,at_,h=>by
  simp only [List.length_cons]at h
  cases hp:sgAt c r with
  | none=>
   rw [zpk hp]
   have:=zl9 n r (at_+1) (by omega)
   simp only [List.length_cons];omega
  | some p=>
   have e:=(zpj hp).2.1
   have hl:r.length=p.1.length+p.2.length+1:=by rw [e];simp;omega
   rw [z15 hp]
   have:=zl9 n p.2 (at_+p.1.length+2) (by omega)
   have h1:=z76 p.1
   have h2:=z9c (sg p.1).2.2 at_
   simp only [List.length_cons,List.length_append];omega
theorem zcp (V:Ev) (x:Bs) (l:List Int) (h:l.length+x.length≤100000000):za V ((x,()),((),(l,())))=some ((((x.length:Int)),(false,())),((),((l++ofBs x),()))):=by
 unfold za zc
 simp only [Option.bind_some,zc7 (show (l.length+x.length)*1≤100000000 by omega),cond_true]
theorem zcq (V:Ev) (x:Bs) (l:List Int) (h:l.length+x.length≤100000000):zh V ((x,()),((),(l,())))=some ((((x.length:Int)),(false,())),((),((l++ofBs x),()))):=by
 unfold zh zc
 simp only [Option.bind_some,zc7 (show (l.length+x.length)*1≤100000000 by omega),cond_true]
theorem ul (V:Ev) (n:Int) (l:List Int) (h:l.length≤10000000):xm V ((n,()),((),(l,())))=some ((false,()),((),((l ++ [n]),()))):=by
 unfold xm zc
 simp only [Option.bind_some,zc7 (show (l.length+([n]:List Int).length)*1≤100000000 by simp;omega),cond_true]
theorem zna (V:Ev) (s:Bs):qp V ((s,((38:Int),())),())=some ((Lib.indexByte s 38,()),()):=rfl
theorem zvz (V:Ev) (s:Bs) (hs:s.length≤100000):∃z,vy V ((s,(([59]:Bs),())),())=some ((match zm9 s with | some p=>p.1 | none=>s,(z,((zm9 s).isSome,()))),()):=by
 unfold vy uu
 have q0:=zll V s 59 (by omega)
 simp -implicitDefEqProofs only [q0]
 simp -implicitDefEqProofs only [Option.bind_some]
 by_cases h:(59:UInt8)∈s
 ·obtain⟨x,r,e,hx,hi⟩:=zl6 s 59 h
  have h0:decide (Lib.indexByte s 59≥0)=true:=decide_eq_true (by omega)
  have hc:zm9 s=some (x,r):=by rw [e];exact z14 x r hx
  have hl:s.length=x.length+r.length+1:=by rw [e];simp;omega
  have s1:sl s 0 (x.length:Int)=some x:=by
   have:=zeh (l:=s) (a:=0) (b:=x.length) (by omega) (by omega)
   simp only [List.drop_zero]at this
   rw [show ((0:Nat):Int)=0 from rfl]at this
   rw [this,e,List.take_left]
  have w:IntKind.wrap .i64 ((x.length:Int)+((([59]:Bs).length:Nat):Int))=((x.length+1:Nat):Int):=by
   rw [jm (by omega) (by simp only [List.length_cons,List.length_nil];omega)];simp
  have s2:sl s ((x.length+1:Nat):Int) (s.length:Int)=some r:=by
   rw [zkw (by omega),e]
   rw [show x++59::r=(x ++ [59])++r by simp,List.drop_left' (by simp)]
  rw [h0,cond_true,hi,s1,Option.bind_some,w,s2,hc]
  exact⟨_,rfl⟩
 ·have hc:=zwr s h
  have h0:decide (Lib.indexByte s 59≥0)=false:=by
   have:=(zfh s 59).2 h
   exact decide_eq_false (by omega)
  rw [h0,cond_false,hc]
  exact⟨_,rfl⟩
theorem ya0 {s x y:Bs} {i:Nat} (h:s.drop i=x++y) (hi:i≤s.length):sl s (i:Int) ((i+x.length:Nat):Int)=some x:=by
 have hl:s.length-i=x.length+y.length:=by
  have:=congrArg List.length h
  simpa using this
 rw [zeh (by omega) (by omega),List.drop_take,h]
 rw [show i+x.length-i=x.length by omega,List.take_left]
theorem zum {s x y:Bs} {i:Nat} (h:s.drop i=x++y):s.drop (i+x.length)=y:=by
 rw [←List.drop_drop,h,List.drop_left]
theorem zsa (N:Nat) (s:Bs) (hs:s.length≤15000) (hN:s.length<N) (h8:8<N):za7 (Ev.upto N) ((s,()),())=some ((((dec s 0).1,()),((dec s 0).2,()))):=by
 apply zr9
 unfold za7
 refine zc6 ?_
 have hL:=zl9 s.length s 0 (Nat.le_refl _)
 refine z0p (fun a=>∃(i:Nat) (b:Bs) (f:List (Int×Int)),a=((s,((i:Int),())),((),(f,(ofBs b,()))))∧i≤s.length∧b++(dec (s.drop i) i).1=(dec s 0).1∧f++(dec (s.drop i) i).2=(dec s 0).2) (fun a=>s.length-a.1.2.1.toNat) ⟨0,[],[],rfl,by omega,by simp,by simp⟩ (by simp;omega) ?_
 rintro _ ⟨i,b,f,rfl,hi,hb,hf⟩
 have hbl:b.length≤60000:=by
  have:=congrArg List.length hb
  rw [List.length_append]at this;omega
 have hfl:f.length≤15000:=by
  have:=congrArg List.length hf
  rw [List.length_append]at this;omega
 have done:∀(j:Nat),j≤s.length→(38:UInt8)∉s.drop j→b++(dec (s.drop j) j).1=(dec s 0).1→f++(dec (s.drop j) j).2=(dec s 0).2 →
   wp ((sl s (j:Int) ((s.length:Nat):Int)).bind fun v20=>((zf (Ev.upto N) ((),((),(ofBs b,())))).bind fun v21=>(bif zx ((v21.1.1).length+(v20).length) then (some (((v21.1.1++v20),()),(f,()))) else none))) (fun x=>x=(((dec s 0).1,()),((dec s 0).2,()))):=by
  intro j hj hn h1 h2
  rw [z60 _ _ hn]at h1 h2
  simp only [List.append_nil]at h2
  rw [zkw hj,Option.bind_some,bj,Option.bind_some,zjk]
  have:zx (b.length+(s.drop j).length)=true:=zwq (by simp;omega)
  simp only [this,cond_true]
  exact⟨_,rfl,by rw [←h1,←h2]⟩
 simp -implicitDefEqProofs only
 by_cases hi':i<s.length
 ·have c0:decide ((i:Int)<((s.length:Nat):Int))=true:=decide_eq_true (by omega)
  have q17:=zna (Ev.upto N) (s.drop i)
  rw [c0,cond_true,zkw hi,Option.bind_some,q17,Option.bind_some]
  by_cases h38:(38:UInt8)∈s.drop i
  ·obtain⟨x,r,e,hx,hidx⟩:=zl6 (s.drop i) 38 h38
   have hlen:s.length-i=x.length+r.length+1:=by
    have:=congrArg List.length e
    simp at this;omega
   have c1:decide (Lib.indexByte (s.drop i) 38<0)=false:=decide_eq_false (by omega)
   have e1:=zum (s:=s) (x:=x) (y:=38::r) (i:=i) e
   have e2:s.drop (i+x.length+1)=r:=by
    have:=zum (s:=s) (x:=[38]) (y:=r) (i:=i+x.length) e1
    exact this
   have w1:IntKind.wrap .i64 ((i:Int)+Lib.indexByte (s.drop i) 38)=((i+x.length:Nat):Int):=by rw [hidx,jm (by omega) (by omega)];omega
   have w2:IntKind.wrap .i64 (((i+x.length:Nat):Int)+1)=((i+x.length+1:Nat):Int):=by rw [jm (by omega) (by omega)];omega
   have s1:=ya0 (s:=s) (x:=x) (y:=38::r) e hi
   have s2:sl s ((i+x.length+1:Nat):Int) ((s.length:Nat):Int)=some r:=by rw [zkw (by omega),e2]
   obtain⟨z,q19⟩:=zvz (Ev.upto N) r (by omega)
   have q18:=zcp (Ev.upto N) x (ofBs b) (by rw [zn];omega)
   rw [kg]at q18
   have hdx:dec (s.drop i) i=(x++(dec (38::r) ((i+x.length:Nat):Int)).1,(dec (38::r) ((i+x.length:Nat):Int)).2):=by
    rw [e,z0r x _ _ hx];rfl
   rw [hdx]at hb hf
   simp only at hb hf
   simp -implicitDefEqProofs only [c1,cond_false,w1,s1,Option.bind_some,q18,w2,s2,q19]
   have q20:=zvy N (by omega) (match zm9 r with | some p=>p.1 | none=>r)
   simp -implicitDefEqProofs only [q20,Option.bind_some]
   cases hcut:zm9 r with
   | none=>
    have hs0:sgAt 38 r=none:=by unfold sgAt;rw [if_pos rfl,hcut]
    rw [zpk hs0]at hb hf
    have q21:=ul (Ev.upto N) 38 (ofBs (b++x)) (by rw [zn,List.length_append];omega)
    have e21:ofBs (b++x) ++ [38]=ofBs (b++x ++ [38]):=by rw [←kg (b++x) [38]];rfl
    rw [e21]at q21
    simp -implicitDefEqProofs only [Option.isSome_none,Bool.not_false,show (true==false)=false from rfl,cond_false,cond_true,Option.bind_some,q21,w2]
    refine⟨_,rfl,⟨i+x.length+1,b++x ++ [38],f,rfl,by omega,?_,?_⟩,by simp;omega⟩
    ·rw [e2,←hb];simp
    ·rw [e2,←hf];simp
   | some p=>
    obtain⟨ep,hp59⟩:=zmr r p hcut
    have hrl:r.length=p.1.length+p.2.length+1:=by rw [ep];simp;omega
    simp -implicitDefEqProofs only [Option.isSome_some,Bool.not_true,beq_self_eq_true,cond_true,Option.bind_some]
    by_cases hsg:(sg p.1).2.1=true
    ·have hs1:sgAt 38 r=some p:=by unfold sgAt;rw [if_pos rfl,hcut];simp only [if_pos hsg]
     rw [z15 hs1]at hb hf
     have hgl:=z76 p.1
     have q18b:=zcq (Ev.upto N) (sg p.1).1 (ofBs (b++x)) (by rw [zn,List.length_append];omega)
     rw [kg]at q18b
     have w3:IntKind.wrap .i64 (((i+x.length:Nat):Int)+(IntKind.wrap .i64 (((p.1.length:Nat):Int)+2)))=((i+x.length+p.1.length+2:Nat):Int):=by
      rw [jm (n:=(p.1.length:Int)+2) (by omega) (by omega),jm (by omega) (by omega)];omega
     have e3:s.drop (i+x.length+p.1.length+2)=p.2:=by
      have:s.drop (i+x.length+1)=(p.1 ++ [59])++p.2:=by rw [e2,ep];simp
      have:=zum (s:=s) (i:=i+x.length+1) this
      rw [←this];congr 1;simp;omega
     have hpl:p.2.length≤s.length:=by omega
     simp -implicitDefEqProofs only [hsg,Bool.not_true,cond_false]
     cases hr:(sg p.1).2.2 with
     | true=>
      simp -implicitDefEqProofs only [Bool.not_true,cond_false,Option.bind_some,q18b,w3]
      refine⟨_,rfl,⟨i+x.length+p.1.length+2,b++x++(sg p.1).1,f,rfl,by omega,?_,?_⟩,by simp;omega⟩
      ·rw [e3,←hb,show ((i+x.length+p.1.length+2:Nat):Int)=((i+x.length:Nat):Int)+p.1.length+2 by omega];simp
      ·rw [e3,←hf,hr,show ((i+x.length+p.1.length+2:Nat):Int)=((i+x.length:Nat):Int)+p.1.length+2 by omega];simp [bad]
     | false=>
      have hfit:fits (f.length+([((130:Int),((i+x.length:Nat):Int))]:List (Int×Int)).length) 16=true:=zc7 (by simp;omega)
      simp -implicitDefEqProofs only [Bool.not_false,cond_true,Option.bind_some,q18b,w3,hfit]
      refine⟨_,rfl,⟨i+x.length+p.1.length+2,b++x++(sg p.1).1,f ++ [(130,((i+x.length:Nat):Int))],rfl,by omega,?_,?_⟩,by simp;omega⟩
      ·rw [e3,←hb,show ((i+x.length+p.1.length+2:Nat):Int)=((i+x.length:Nat):Int)+p.1.length+2 by omega];simp
      ·rw [e3,←hf,hr,show ((i+x.length+p.1.length+2:Nat):Int)=((i+x.length:Nat):Int)+p.1.length+2 by omega];simp [bad]
    ·have hsg':(sg p.1).2.1=false:=by simpa using hsg
     have hs0:sgAt 38 r=none:=by unfold sgAt;rw [if_pos rfl,hcut];simp only [if_neg hsg]
     rw [zpk hs0]at hb hf
     have q21:=ul (Ev.upto N) 38 (ofBs (b++x)) (by rw [zn,List.length_append];omega)
     have e21:ofBs (b++x) ++ [38]=ofBs (b++x ++ [38]):=by rw [←kg (b++x) [38]];rfl
     rw [e21]at q21
     simp -implicitDefEqProofs only [hsg',Bool.not_false,cond_true,Option.bind_some,q21,w2]
     refine⟨_,rfl,⟨i+x.length+1,b++x ++ [38],f,rfl,by omega,?_,?_⟩,by simp;omega⟩
     ·rw [e2,←hb];simp
     ·rw [e2,←hf];simp
  ·have c1:decide (Lib.indexByte (s.drop i) 38<0)=true:=decide_eq_true ((zfh _ _).2 h38)
   rw [c1,cond_true]
   exact⟨_,rfl,done i hi h38 hb hf⟩
 ·have c0:decide ((i:Int)<((s.length:Nat):Int))=false:=decide_eq_false (by omega)
  rw [c0,cond_false]
  exact⟨_,rfl,done i hi (by rw [List.drop_eq_nil_of_le (by omega)];simp) hb hf⟩
theorem zqw:∀(f:Nat) (s:Bs) (a k:Int),decB f s (a+k)=((decB f s a).1,(decB f s a).2.map fun p=>(p.1,p.2+k))
 | 0,s,a,k=>rfl
 | f+1,[],a,k=>rfl
 | f+1,c::r,a,k=>by
  simp only [decB]
  cases sgAt c r with
  | none=>
   simp only
   rw [show a+k+1=(a+1)+k by omega,zqw f r (a+1) k]
  | some p=>
   simp only
   rw [show a+k+p.1.length+2=(a+p.1.length+2)+k by omega,zqw f p.2 (a+p.1.length+2) k]
   simp only [List.map_append]
   congr 2
   unfold bad
   split<;>rfl
theorem zzl (s:Bs) (k:Int):dec s k=((dec s 0).1,(dec s 0).2.map fun p=>(p.1,p.2+k)):=by
 have:=zqw s.length s 0 k
 rw [Int.zero_add]at this
 exact this
theorem z0s:∀(f:Nat) (s:Bs) (a:Int),∀p∈(decB f s a).2,a≤p.2∧p.2≤a+s.length
 | 0,s,a,p,h=>by simp [decB]at h
 | f+1,[],a,p,h=>by simp [decB]at h
 | f+1,c::r,a,p,h=>by
  simp only [decB]at h
  cases hs:sgAt c r with
  | none=>
   rw [hs]at h
   have:=z0s f r (a+1) p h
   simp only [List.length_cons];omega
  | some q=>
   rw [hs]at h
   simp only [List.mem_append]at h
   have hl:r.length=q.1.length+q.2.length+1:=by rw [(zpj hs).2.1];simp;omega
   rcases h with h | h
   ·unfold bad at h
    split at h
    ·cases h
    ·have:p=(130,a):=by simpa using h
     subst this
     simp only [List.length_cons];omega
   ·have:=z0s f q.2 _ p h
    simp only [List.length_cons];omega
abbrev Fl:=Int×Int
abbrev cur (s:Bs) (i:Nat) (out:List Tok) (f:List Fl):(Bs×Int×Unit)×(List Tok)×(List Fl)×Unit:=((s,((i:Int),())),(out,(f,())))
theorem zng {p:UInt8→Bool}:∀(l:Bs) (k:Nat),(∀c∈l.take k,p c=true)→(k≤l.length)→(∀h:k<l.length,p l[k]=false)→l.takeWhile p=l.take k
 | [],k,_,hk,_=>by simp
 | c::l,0,_,_,h=>by
  have:=h (by simp)
  simp only [List.getElem_cons_zero]at this
  simp [this]
 | c::l,k+1,ha,hk,h=>by
  have h1:p c=true:=ha c (by simp)
  rw [List.takeWhile_cons,if_pos h1,List.take_succ_cons,zng l k (fun d hd=>ha d (by simp [hd])) (by simpa using hk) (fun hh=>by have:=h (by simpa using hh);simpa using this)]
theorem zma (N:Nat) (s:Bs) (i:Nat) (out:List Tok) (f:List Fl) (P:Int→Option ((Bool×Unit)×Unit)) (p:UInt8→Bool) (hP:∀c:UInt8,P (c.toNat:Int)=some ((p c,()),())) (hi:i≤s.length) (hs:s.length≤1000000) (hN:s.length<N) :
  ((((Ev.upto N).it (fun (s1:(Int×Unit)×((Bs×Int×Unit)×(List Tok)×(List Fl)×Unit))=>((bif (decide (s1.2.1.2.1<((s1.2.1.1).length:Int))==true) then ((idx s1.2.1.1 s1.2.1.2.1).bind fun v2=>((P ((v2).toNat:Int)).bind fun v3=>(some ((s1.1.1,(v3.1.1,())),((s1.2.1.1,(s1.2.1.2.1,())),(s1.2.2.1,(s1.2.2.2.1,()))))))) else (some ((s1.1.1,(false,())),((s1.2.1.1,(s1.2.1.2.1,())),(s1.2.2.1,(s1.2.2.2.1,())))))).bind fun o4=>(bif o4.1.2.1 then (some (Sum.inl ((o4.1.1,()),((o4.2.1.1,((IntKind.wrap .i64 (o4.2.1.2.1+(1:Int))),())),(o4.2.2.1,(o4.2.2.2.1,())))))) else (some (Sum.inr (((o4.1.1,()),((o4.2.1.1,(o4.2.1.2.1,())),(o4.2.2.1,(o4.2.2.2.1,())))):(Int×Unit)×((Bs×Int×Unit)×(List Tok)×(List Fl)×Unit))))))) ((((i:Nat):Int),()),cur s i out f)).bind fun o5=>((sl o5.2.1.1 o5.1.1 o5.2.1.2.1).bind fun v6=>(some ((v6,()),((o5.2.1.1,(o5.2.1.2.1,())),(o5.2.2.1,(o5.2.2.2.1,()))))))))=some (((s.drop i).takeWhile p,()),cur s (i+((s.drop i).takeWhile p).length) out f):=by
 apply zr9
 refine zc6 ?_
 refine z0p (fun a=>∃j,a=((((i:Nat):Int),()),cur s j out f)∧i≤j∧j≤s.length∧∀c∈(s.drop i).take (j-i),p c=true) (fun a=>s.length-a.2.1.2.1.toNat) ⟨i,rfl,Nat.le_refl _,hi,by simp⟩ (by simp;omega) ?_
 rintro _ ⟨j,rfl,hij,hj,ha⟩
 have done:(∀h:j<s.length,p s[j]=false)→(s.drop i).takeWhile p=(s.drop i).take (j-i):=fun h=>by
  refine zng _ _ ha (by simp;omega) ?_
  intro hh
  have hh':j<s.length:=by simp at hh;omega
  have:=h hh'
  rw [List.getElem_drop]
  simpa [show i+(j-i)=j by omega] using this
 have fin:(∀h:j<s.length,p s[j]=false)→wp ((sl s ((i:Nat):Int) ((j:Nat):Int)).bind fun v6=>(some ((v6,()),cur s j out f))) (fun x=>x=(((s.drop i).takeWhile p,()),cur s (i+((s.drop i).takeWhile p).length) out f)):=fun h=>by
  rw [zeh hij hj]
  refine⟨_,rfl,?_⟩
  rw [done h]
  have e1:(s.take j).drop i=(s.drop i).take (j-i):=by rw [List.drop_take]
  have e2:i+((s.drop i).take (j-i)).length=j:=by simp;omega
  rw [e2,e1]
 by_cases hjl:j<s.length
 ·have c0:(decide ((j:Int)<(s.length:Int))==true)=true:=by rw [show decide ((j:Int)<(s.length:Int))=true from decide_eq_true (by omega)];rfl
  have w:IntKind.wrap .i64 ((j:Int)+1)=((j+1:Nat):Int):=by rw [jm (by omega) (by omega)];omega
  simp -implicitDefEqProofs only [c0,cond_true,jv hjl,Option.bind_some,hP]
  cases hp:p s[j] with
  | true=>
   simp -implicitDefEqProofs only [cond_true,w]
   refine⟨_,rfl,⟨j+1,rfl,by omega,by omega,?_⟩,by simp;omega⟩
   intro c hc
   have hd:j-i<(s.drop i).length:=by simp;omega
   rw [show j+1-i=(j-i)+1 by omega,List.take_succ_eq_append_getElem hd,List.mem_append,List.mem_singleton]at hc
   rcases hc with hc | rfl
   ·exact ha c hc
   ·rw [List.getElem_drop]
    simpa [show i+(j-i)=j by omega] using hp
  | false=>
   simp -implicitDefEqProofs only [cond_false]
   exact⟨_,rfl,fin (fun _=>hp)⟩
 ·have c0:(decide ((j:Int)<(s.length:Int))==true)=false:=by rw [show decide ((j:Int)<(s.length:Int))=false from decide_eq_false (by omega)];rfl
  simp -implicitDefEqProofs only [c0,cond_false,Option.bind_some]
  exact⟨_,rfl,fin (fun h=>absurd h hjl)⟩
def zcr (c:UInt8):Bool:=((c.toNat:Int) != 60)
theorem z40 (N:Nat) (s:Bs) (i:Nat) (out:List Tok) (f:List Fl) (hi:i≤s.length) (hs:s.length≤1000000) (hN:s.length<N):gu (Ev.upto N) ((),cur s i out f)=some (((s.drop i).takeWhile zcr,()),cur s (i+((s.drop i).takeWhile zcr).length) out f):=
 zma N s i out f (fun n=>zcz (Ev.upto N) ((n,()),())) zcr (fun c=>rfl) hi hs hN
theorem ya1 {n k:Nat} (h:n*k≤100000000000000):fits n k=true:=decide_eq_true (Nat.le_trans h (by decide))
theorem zx1 {n:Nat} (h:n≤100000000000000):zx n=true:=decide_eq_true (Nat.le_trans h (by decide))
theorem zkj (V:Ev) (e a:Int) (s:Bs) (i:Nat) (out:List Tok) (f:List Fl) (hf:f.length≤1000000000):zi V ((e,(a,())),cur s i out f)=some ((),cur s i out (f ++ [(e,a)])):=by
 unfold zi
 have g:fits (f.length+([(e,a)]:List Fl).length) 16=true:=ya1 (by simp;omega)
 show (bif fits (f.length+([(e,a)]:List Fl).length) 16 then _ else _)=_
 rw [g]
 rfl
theorem zjl (N:Nat) (x:Bs) (a:Nat) (s:Bs) (i:Nat) (out:List Tok) (f:List Fl) (hx:x.length≤15000) (ha:a≤1000000) (hf:f.length+x.length≤1000000000) (hN:x.length<N) (h8:8<N) :
  zz (Ev.upto N) ((x,((a:Int),())),cur s i out f)=some (((dec x 0).1,()),cur s i out (f++(dec x a).2)):=by
 have hd:=zsa N x hx hN h8
 have hl:=(zl9 x.length x 0 (Nat.le_refl _)).2
 have hp:=z0s x.length x 0
 rw [zzl x a]
 generalize hD:dec x 0=D at *
 have hp':∀p∈D.2,0≤p.2∧p.2≤x.length:=fun p h=>by
  have:=hp p (by rw [show decB x.length x 0=D from hD];exact h)
  omega
 apply zr9
 unfold zz
 simp -implicitDefEqProofs only [Option.bind_some,hd]
 refine zc6 ?_
 refine zrk (σ:=Unit) (fun j _=>(((a:Int),(D.1,((D.2.length:Int),((j:Int),())))),((s,((i:Int),())),(D.2,(out,(f++(D.2.take j).map (fun p=>(p.1,p.2+(a:Int))),())))))) (fun _ _=>True) D.2.length () (by simp) trivial (by omega) ?_
 rintro j _ hj _
 by_cases hj':j<D.2.length
 ·have c0:decide ((j:Int)<(D.2.length:Int))=true:=decide_eq_true (by omega)
  have c1:decide (0≤(j:Int))=true:=decide_eq_true (by omega)
  have w:IntKind.wrap .i64 ((j:Int)+1)=((j+1:Nat):Int):=by rw [jm (by omega) (by omega)];omega
  have hq:=hp' D.2[j] (List.getElem_mem hj')
  have w2:IntKind.wrap .i64 ((a:Int)+D.2[j].2)=D.2[j].2+(a:Int):=by rw [jm (by omega) (by omega)];omega
  have q:=zkj (Ev.upto N) D.2[j].1 (D.2[j].2+(a:Int)) s i out (f++(D.2.take j).map (fun p=>(p.1,p.2+(a:Int)))) (by simp;omega)
  have ij:D.2[((j:Nat):Int).toNat]? = some D.2[j]:=by rw [Int.toNat_natCast];exact List.getElem?_eq_getElem hj'
  simp -implicitDefEqProofs only [c0,c1,Bool.and_self,Bool.and_true,cond_true,ij,Option.bind_some,w2,q,w]
  refine⟨_,rfl,hj',(),?_,trivial⟩
  rw [List.take_succ_eq_append_getElem hj',List.map_append]
  simp only [List.map_cons,List.map_nil,List.append_assoc]
 ·have c0:decide ((j:Int)<(D.2.length:Int))=false:=decide_eq_false (by omega)
  have ht:D.2.take j=D.2:=List.take_of_length_le (by omega)
  simp -implicitDefEqProofs only [c0,cond_false,ht]
  exact⟨_,rfl,_,rfl,rfl⟩
abbrev tx (d:Bs):Tok:=((1:Int),(([]:Bs),(d,(([]:List Att),false))))
def z41:Bs:=[9,10,12,13,32]
def zun (s:Bs):Bs:=Lib.trimS s z41
theorem z16 {s:Bs} {i:Nat} (h:i<s.length):(ofBs s)[i]'(by rw [zn];exact h)=(s[i].toNat:Int):=by simp [ofBs]
def lowI (n:Int):Int:=bif decide (n≥65)&&decide (n≤90) then n+32 else n
def zmb (s:Bs):Bs:=toBs ((ofBs s).map lowI)
theorem zkk (s:Bs):(zmb s).length=s.length:=by simp [zmb,toBs,ofBs]
theorem z61 (c:UInt8) (h0:decide ((c.toNat:Int)≥65)=true) (h1:decide ((c.toNat:Int)≤90)=true):IntKind.wrap .u8 ((IntKind.wrap .u8 ((c.toNat:Int)+97))-65)=(c.toNat:Int)+32:=by
 have h0:=of_decide_eq_true h0
 have h1:=of_decide_eq_true h1
 rw [zuh (n:=(c.toNat:Int)+97) (by omega) (by omega),zuh (by omega) (by omega)]
 omega
theorem zsn (N:Nat) (s:Bs) (hs:s.length<N) (hb:s.length≤1000000):w9 (Ev.upto N) ((s,()),())=some ((zmb s,()),()):=by
 apply zr9
 unfold w9
 refine zc6 ?_
 refine zrk (σ:=Unit) (fun i _=>((((ofBs s).length:Int),((i:Int),())),(((ofBs s).take i).map lowI++(ofBs s).drop i,()))) (fun i _=>True) s.length () (by simp) trivial hs ?_
 rintro i _ hi _
 have hol:=zn s
 have hll:(((ofBs s).take i).map lowI++(ofBs s).drop i).length=s.length:=by simp [hol];omega
 by_cases hi':i<s.length
 ·have c0:decide ((i:Int)<((ofBs s).length:Int))=true:=decide_eq_true (by omega)
  have c1:decide ((i:Int)<((((ofBs s).take i).map lowI++(ofBs s).drop i).length:Int))=true:=decide_eq_true (by omega)
  have c2:decide ((0:Int)≤(i:Int))=true:=decide_eq_true (by omega)
  have w:IntKind.wrap .i64 ((i:Int)+1)=((i+1:Nat):Int):=by rw [jm (by omega) (by omega)];omega
  have hd:(ofBs s).drop i=(s[i].toNat:Int)::(ofBs s).drop (i+1):=by rw [List.drop_eq_getElem_cons (by omega),z16 hi']
  have hlen:(((ofBs s).take i).map lowI).length=i:=by simp [hol];omega
  have g:(((ofBs s).take i).map lowI++(ofBs s).drop i)[((i:Int)).toNat]? = some (s[i].toNat:Int):=by
   rw [Int.toNat_natCast,List.getElem?_append_right (by omega),hlen,Nat.sub_self,hd];rfl
  have st:∀v,(((ofBs s).take i).map lowI++(ofBs s).drop i).set ((i:Int)).toNat v=((ofBs s).take i).map lowI++v::(ofBs s).drop (i+1):=by
   intro v
   rw [Int.toNat_natCast,List.set_append_right _ _ (by omega),hlen,Nat.sub_self,hd];rfl
  have nx:((ofBs s).take (i+1)).map lowI++(ofBs s).drop (i+1)=((ofBs s).take i).map lowI++lowI (s[i].toNat:Int)::(ofBs s).drop (i+1):=by
   rw [List.take_succ_eq_append_getElem (by omega),List.map_append,z16 hi'];simp
  simp -implicitDefEqProofs only [c0,c1,c2,Bool.and_self,cond_true,g,Option.bind_some]
  cases h1:decide ((s[i].toNat:Int)≥65) with
  | false=>
   have hx:lowI (s[i].toNat:Int)=(s[i].toNat:Int):=by unfold lowI;rw [h1];rfl
   rw [hx]at nx
   exact⟨_,rfl,hi',(),by simp only [w,nx,←hd],trivial⟩
  | true=>
   cases h2:decide ((s[i].toNat:Int)≤90) with
   | false=>
    have hx:lowI (s[i].toNat:Int)=(s[i].toNat:Int):=by unfold lowI;rw [h1,h2];rfl
    rw [hx]at nx
    exact⟨_,rfl,hi',(),by simp only [w,nx,←hd],trivial⟩
   | true=>
    have hx:lowI (s[i].toNat:Int)=(s[i].toNat:Int)+32:=by unfold lowI;rw [h1,h2];rfl
    rw [hx]at nx
    have lw:=z61 s[i] h1 h2
    simp -implicitDefEqProofs only [beq_self_eq_true,cond_true,Option.bind_some,c1,c2,Bool.and_self,g,st,lw]
    exact⟨_,rfl,hi',(),by simp only [w,nx],trivial⟩
 ·have c0:decide ((i:Int)<((ofBs s).length:Int))=false:=decide_eq_false (by omega)
  simp -implicitDefEqProofs only [c0,cond_false]
  refine⟨_,rfl,_,rfl,?_⟩
  rw [List.take_of_length_le (by omega),List.drop_eq_nil_of_le (by omega),List.append_nil]
  rfl
def zc8 (c:UInt8):Bool:=z41.contains c
theorem zx2 (V:Ev) (c:UInt8):xw V ((((c.toNat:Nat):Int),()),())=some ((zc8 c,()),()):=by
 have h:(List.range 256).all (fun n=>xw Ev.all ((((n:Nat):Int),()),())==some ((zc8 (UInt8.ofNat n),()),()))=true:=by kernel_rfl
 have h2:=List.all_eq_true.1 h c.toNat (List.mem_range.2 c.toNat_lt)
 rw [beq_iff_eq,UInt8.ofNat_toNat]at h2
 exact h2
theorem z9d (N:Nat) (a b:Bs) (ha:a.length<N) (hb:b.length<N) (ha':a.length≤1000000) (hb':b.length≤1000000):zif (Ev.upto N) ((a,(b,())),())=some ((zmb a==zmb b,()),()):=by
 unfold zif
 simp -implicitDefEqProofs only [zsn N a ha ha',zsn N b hb hb',Option.bind_some]
def zmc (c:UInt8):Bool:=(decide ((c.toNat:Int)≥97)&&decide ((c.toNat:Int)≤122))||(decide ((c.toNat:Int)≥65)&&decide ((c.toNat:Int)≤90))
theorem zzm (V:Ev) (c:UInt8):gk V ((((c.toNat:Nat):Int),()),())=some ((zmc c,()),()):=by
 have h:(List.range 256).all (fun n=>gk Ev.all ((((n:Nat):Int),()),())==some ((zmc (UInt8.ofNat n),()),()))=true:=by kernel_rfl
 have h2:=List.all_eq_true.1 h c.toNat (List.mem_range.2 c.toNat_lt)
 rw [beq_iff_eq,UInt8.ofNat_toNat]at h2
 exact h2
def zsb (c:UInt8):Bool:= !zc8 c&&(c != 47&&c != 62)
def zrl (c:UInt8):Bool:= !zc8 c&&(c != 47&&(c != 62&&c != 61))
def zqx (c:UInt8):Bool:= !zc8 c&&c != 62
theorem z9e (V:Ev) (c:UInt8):kf V ((((c.toNat:Nat):Int),()),())=some ((zsb c,()),()):=by
 have h:(List.range 256).all (fun n=>kf Ev.all ((((n:Nat):Int),()),())==some ((zsb (UInt8.ofNat n),()),()))=true:=by kernel_rfl
 have h2:=List.all_eq_true.1 h c.toNat (List.mem_range.2 c.toNat_lt)
 rw [beq_iff_eq,UInt8.ofNat_toNat]at h2
 exact h2
theorem z62 (V:Ev) (c:UInt8):jt V ((((c.toNat:Nat):Int),()),())=some ((zrl c,()),()):=by
 have h:(List.range 256).all (fun n=>jt Ev.all ((((n:Nat):Int),()),())==some ((zrl (UInt8.ofNat n),()),()))=true:=by kernel_rfl
 have h2:=List.all_eq_true.1 h c.toNat (List.mem_range.2 c.toNat_lt)
 rw [beq_iff_eq,UInt8.ofNat_toNat]at h2
 exact h2
theorem z9f (V:Ev) (c:UInt8):jh V ((((c.toNat:Nat):Int),()),())=some ((zqx c,()),()):=by
 have h:(List.range 256).all (fun n=>jh Ev.all ((((n:Nat):Int),()),())==some ((zqx (UInt8.ofNat n),()),()))=true:=by kernel_rfl
 have h2:=List.all_eq_true.1 h c.toNat (List.mem_range.2 c.toNat_lt)
 rw [beq_iff_eq,UInt8.ofNat_toNat]at h2
 exact h2
def ku (p:UInt8→Bool) (s:Bs) (i:Nat):Nat:=((s.drop i).takeWhile p).length
theorem zfi (p:UInt8→Bool) (s:Bs) (i:Nat) (h:i≤s.length):i+ku p s i≤s.length:=by
 have:((s.drop i).takeWhile p).length≤(s.drop i).length:=(List.takeWhile_prefix p).length_le
 unfold ku
 rw [List.length_drop]at this
 omega
theorem zbi (p:UInt8→Bool) (s:Bs) (i:Nat):(s.drop i).takeWhile p=(s.drop i).take (ku p s i):=by
 unfold ku
 have h:=List.takeWhile_append_dropWhile (p:=p) (l:=s.drop i)
 conv=>rhs;rw [←h]
 rw [List.take_left']
 rw [h]
theorem z28 (N:Nat) (s:Bs) (i:Nat) (out:List Tok) (f:List Fl) (hi:i≤s.length) (hs:s.length≤1000000) (hN:s.length<N):gn (Ev.upto N) ((),cur s i out f)=some (((s.drop i).take (ku zsb s i),()),cur s (i+ku zsb s i) out f):=by
 rw [←zbi]
 exact zma N s i out f (fun n=>kf (Ev.upto N) ((n,()),())) zsb (z9e _) hi hs hN
theorem z0t (N:Nat) (s:Bs) (i:Nat) (out:List Tok) (f:List Fl) (hi:i≤s.length) (hs:s.length≤1000000) (hN:s.length<N):gr (Ev.upto N) ((),cur s i out f)=some (((s.drop i).take (ku zrl s i),()),cur s (i+ku zrl s i) out f):=by
 rw [←zbi]
 exact zma N s i out f (fun n=>jt (Ev.upto N) ((n,()),())) zrl (z62 _) hi hs hN
theorem zrm (N:Nat) (s:Bs) (i:Nat) (out:List Tok) (f:List Fl) (hi:i≤s.length) (hs:s.length≤1000000) (hN:s.length<N):jc (Ev.upto N) ((),cur s i out f)=some (((s.drop i).take (ku zc8 s i),()),cur s (i+ku zc8 s i) out f):=by
 rw [←zbi]
 exact zma N s i out f (fun n=>xw (Ev.upto N) ((n,()),())) zc8 (zx2 _) hi hs hN
theorem z29 (N:Nat) (s:Bs) (i:Nat) (out:List Tok) (f:List Fl) (hi:i≤s.length) (hs:s.length≤1000000) (hN:s.length<N):gt (Ev.upto N) ((),cur s i out f)=some (((s.drop i).take (ku zqx s i),()),cur s (i+ku zqx s i) out f):=by
 rw [←zbi]
 exact zma N s i out f (fun n=>jh (Ev.upto N) ((n,()),())) zqx (z9f _) hi hs hN
def zlm:Bs→Bs→Option Nat
 | [],e=>if e.isEmpty then some 0 else none
 | c::r,e=>if e.isPrefixOf (c::r) then some 0 else (zlm r e).map (· + 1)
theorem zuo:∀(l e:Bs),Lib.index l e=match zlm l e with | some k=>(k:Int) | none=> -1
 | [],e=>by unfold Lib.index zlm;split<;>rfl
 | c::r,e=>by
  unfold Lib.index zlm
  split
  ·rfl
  ·rw [zuo r e]
   cases zlm r e with
   | none=>rfl
   | some k=>
    have:((k:Int) == -1)=false:=by simp
    simp only [this,Option.map_some]
    simp
theorem zfj:∀(l e:Bs) (k:Nat),zlm l e=some k→k+e.length≤l.length∧(l.drop k).take e.length=e
 | [],e,k,h=>by
  unfold zlm at h
  split at h
  ·rename_i he
   cases h
   have:e = []:=by simpa using he
   subst this
   simp
  ·cases h
 | c::r,e,k,h=>by
  unfold zlm at h
  split at h
  ·rename_i hp
   cases h
   have:=List.isPrefixOf_iff_prefix.1 hp
   refine⟨by simpa using this.length_le,?_⟩
   rw [List.drop_zero]
   exact(List.prefix_iff_eq_take.1 this).symm
  ·cases hr:zlm r e with
   | none=>rw [hr]at h;cases h
   | some j=>
    rw [hr]at h
    cases h
    have:=zfj r e j hr
    simp only [List.length_cons,List.drop_succ_cons]
    exact⟨by omega,this.2⟩
theorem ya2 (V:Ev) (l e:Bs) (hl:l.length≤100000):vy V ((l,(e,())),())=some ((match zlm l e with | some k=>(l.take k,(l.drop (k+e.length),(true,()))) | none=>(l,(([]:Bs),(false,())))),()):=by
 unfold vy uu xi zwp
 simp -implicitDefEqProofs only [show decide (l.length<4294967281)=true from decide_eq_true (by omega),cond_true,Option.bind_some,zuo l e]
 cases hf:zlm l e with
 | none=>
  simp -implicitDefEqProofs only [show decide ((-1:Int)≥0)=false from rfl,cond_false,Option.bind_some]
 | some k=>
  obtain⟨h1,h2⟩:=zfj l e k hf
  have w:IntKind.wrap .i64 ((k:Int)+(e.length:Int))=((k+e.length:Nat):Int):=by rw [jm (by omega) (by omega)];omega
  have s1:sl l (0:Int) (k:Int)=some (l.take k):=by have:=zeh (l:=l) (a:=0) (b:=k) (by omega) (by omega);simpa using this
  have s2:sl l ((k+e.length:Nat):Int) (l.length:Int)=some (l.drop (k+e.length)):=zkw h1
  simp -implicitDefEqProofs only [show decide ((k:Int)≥0)=true from decide_eq_true (by omega),cond_true,w,s1,s2,Option.bind_some]
theorem zx3 (V:Ev) (s:Bs) (i:Nat) (out:List Tok) (f:List Fl) (hi:i≤s.length):yw V ((),cur s i out f)=some ((s.drop i,()),cur s i out f):=by
 unfold yw
 have q:sl s ((i:Nat):Int) (s.length:Int)=some (s.drop i):=zkw hi
 simp -implicitDefEqProofs only [q,Option.bind_some]
def isB (s:Bs) (i:Nat) (low:Bs):Bool:=decide (low.length≤s.length-i)&&zmb ((s.drop i).take low.length)==zmb low
theorem z3a (N:Nat) (low s:Bs) (i:Nat) (out:List Tok) (f:List Fl) (hi:i≤s.length) (hs:s.length≤100000) (hl:low.length≤100000) (hN:s.length<N):zy (Ev.upto N) ((low,()),cur s i out f)=some ((isB s i low,()),cur s i out f):=by
 unfold zy isB
 have q:=zx3 (Ev.upto N) s i out f hi
 simp -implicitDefEqProofs only [q,Option.bind_some]
 by_cases h:low.length≤s.length-i
 ·have c:decide (((s.drop i).length:Int)≥(low.length:Int))=true:=decide_eq_true (by simp;omega)
  have s1:sl (s.drop i) (0:Int) (low.length:Int)=some ((s.drop i).take low.length):=by have:=zeh (l:=s.drop i) (a:=0) (b:=low.length) (by omega) (by simp;omega);simpa using this
  have q2:=z9d N ((s.drop i).take low.length) low (by simp;omega) (by omega) (by simp;omega) (by omega)
  simp -implicitDefEqProofs only [c,beq_self_eq_true,cond_true,s1,Option.bind_some,q2,show decide (low.length≤s.length-i)=true from decide_eq_true h,Bool.true_and]
 ·have c:decide (((s.drop i).length:Int)≥(low.length:Int))=false:=decide_eq_false (by simp;omega)
  simp -implicitDefEqProofs only [c,show (false==true)=false from rfl,cond_false,Option.bind_some,show decide (low.length≤s.length-i)=false from decide_eq_false h,Bool.false_and]
theorem z42 (V:Ev) (e s:Bs) (i:Nat) (out:List Tok) (f:List Fl) (hi:i≤s.length) (hs:s.length≤100000):jd V ((e,()),cur s i out f)=match zlm (s.drop i) e with | some k=>some (((s.drop i).take k,(true,())),cur s (i+k+e.length) out f) | none=>some ((s.drop i,(false,())),cur s s.length out f):=by
 unfold jd
 have q:=zx3 V s i out f hi
 have q2:=ya2 V (s.drop i) e (by simp;omega)
 simp -implicitDefEqProofs only [q,Option.bind_some,q2]
 cases hf:zlm (s.drop i) e with
 | none=>
  have w:IntKind.wrap .i64 (((i:Nat):Int)+((s.drop i).length:Int))=((s.length:Nat):Int):=by rw [jm (by simp;omega) (by simp;omega)];simp;omega
  simp -implicitDefEqProofs only [cond_false,Option.bind_some,w]
 | some k=>
  have hk:=(zfj _ _ _ hf).1
  have hk2:k+e.length≤s.length-i:=by simpa using hk
  have hl:(((s.drop i).take k).length:Int)=(k:Int):=by simp;omega
  have w1:IntKind.wrap .i64 (((i:Nat):Int)+(k:Int))=((i+k:Nat):Int):=by rw [jm (by omega) (by omega)];omega
  have w2:IntKind.wrap .i64 (((i+k:Nat):Int)+(e.length:Int))=((i+k+e.length:Nat):Int):=by rw [jm (by omega) (by omega)];omega
  simp -implicitDefEqProofs only [cond_true,Option.bind_some,hl,w1,w2]
def valP (s:Bs) (i:Nat):Bs×Bool×Nat×List Fl:=
 if isB s i [34]||isB s i [39] then
  match zlm (s.drop (i+1)) ((s.drop i).take 1) with
  | some k=>((dec ((s.drop (i+1)).take k) (i+1:Nat)).1,true,i+1+k+1,(dec ((s.drop (i+1)).take k) (i+1:Nat)).2)
  | none=>((dec (s.drop (i+1)) (i+1:Nat)).1,false,s.length,(dec (s.drop (i+1)) (i+1:Nat)).2)
 else ((dec ((s.drop i).take (ku zqx s i)) (i:Nat)).1,true,i+ku zqx s i,(dec ((s.drop i).take (ku zqx s i)) (i:Nat)).2)
theorem z0u (x:Bs) (a:Int):(dec x a).1=(dec x 0).1:=by rw [zzl x a]
theorem z63 (N:Nat) (s:Bs) (i:Nat) (out:List Tok) (f:List Fl) (hi:i≤s.length) (hs:s.length≤15000) (hf:f.length≤900000000) (hN:s.length<N) (h8:8<N) :
  qu (Ev.upto N) ((),cur s i out f)=some (((valP s i).1,((valP s i).2.1,())),cur s (valP s i).2.2.1 out (f++(valP s i).2.2.2)):=by
 unfold qu valP
 have q1:=z3a N [34] s i out f hi (by omega) (by decide) hN
 have q2:=z3a N [39] s i out f hi (by omega) (by decide) hN
 cases h1:(isB s i [34]||isB s i [39]) with
 | true=>
  have hlt:i<s.length:=by
   rcases Bool.or_eq_true _ _▸h1 with h | h
   ·have:=of_decide_eq_true (Bool.and_eq_true _ _▸h:_∧_).1
    simp at this;omega
   ·have:=of_decide_eq_true (Bool.and_eq_true _ _▸h:_∧_).1
    simp at this;omega
  have e:((zy (Ev.upto N) ((([34]:Bs),()),cur s i out f)).bind fun v1=>(bif (v1.1.1==false) then ((zy (Ev.upto N) ((([39]:Bs),()),((v1.2.1.1,(v1.2.1.2.1,())),(v1.2.2.1,(v1.2.2.2.1,()))))).bind fun v2=>(some ((v2.1.1,()),((v2.2.1.1,(v2.2.1.2.1,())),(v2.2.2.1,(v2.2.2.2.1,())))))) else (some ((true,()),((v1.2.1.1,(v1.2.1.2.1,())),(v1.2.2.1,(v1.2.2.2.1,())))))))=some ((true,()),cur s i out f):=by
   simp -implicitDefEqProofs only [q1,Option.bind_some]
   cases h34:isB s i [34] with
   | true=>rfl
   | false=>
    rw [h34,Bool.false_or]at h1
    rw [h1]at q2
    simp -implicitDefEqProofs only [beq_self_eq_true,cond_true,q2,Option.bind_some]
  rw [if_pos rfl]
  have s1:sl (s.drop i) (0:Int) (1:Int)=some ((s.drop i).take 1):=by have:=zeh (l:=s.drop i) (a:=0) (b:=1) (by omega) (by simp;omega);simpa using this
  have w:IntKind.wrap .i64 (((i:Nat):Int)+1)=((i+1:Nat):Int):=by rw [jm (by omega) (by omega)];omega
  have q3:=zx3 (Ev.upto N) s i out f hi
  have q4:=z42 (Ev.upto N) ((s.drop i).take 1) s (i+1) out f (by omega) (by omega)
  have hl1:((s.drop i).take 1).length=1:=by simp;omega
  rw [e]
  simp -implicitDefEqProofs only [Option.bind_some,cond_true,q3,s1,w,q4]
  cases hfd:zlm (s.drop (i+1)) ((s.drop i).take 1) with
  | none=>
   have q5:=zjl N (s.drop (i+1)) (i+1) s s.length out f (by simp;omega) (by omega) (by simp;omega) (by simp;omega) h8
   simp -implicitDefEqProofs only [Option.bind_some,q5,z0u]
  | some k=>
   have hk:=(zfj _ _ _ hfd).1
   rw [hl1]at hk
   have hk2:k+1≤s.length-(i+1):=by simpa using hk
   have q5:=zjl N ((s.drop (i+1)).take k) (i+1) s (i+1+k+((s.drop i).take 1).length) out f (by simp;omega) (by omega) (by simp;omega) (by simp;omega) h8
   rw [hl1]at q5
   simp -implicitDefEqProofs only [Option.bind_some,q5,z0u,hl1]
 | false=>
  obtain⟨h34,h39⟩:=Bool.or_eq_false_iff.1 h1
  rw [h34]at q1
  rw [h39]at q2
  rw [if_neg (by simp)]
  have q3:=z29 N s i out f hi (by omega) hN
  have hsp:=zfi zqx s i hi
  have q5:=zjl N ((s.drop i).take (ku zqx s i)) i s (i+ku zqx s i) out f (by simp;omega) (by omega) (by simp;omega) (by simp;omega) h8
  simp -implicitDefEqProofs only [q1,q2,Option.bind_some,beq_self_eq_true,cond_true,cond_false,q3,q5,z0u]
theorem z43 {α:Type} {p:α→Bool} {l:List α} {i:Nat} (h:i<l.length):(l.take (i+1)).any p=((l.take i).any p||p l[i]):=by
 rw [List.take_succ_eq_append_getElem h,List.any_append]
 simp
def hasA (l:List Att) (n:Bs):Bool:=l.any fun x=>x.1==n
theorem z9g {l:List Att} {n:Bs} {i:Nat} (h:i<l.length) (hp:(l[i].1==n)=true):hasA l n=true:=
 List.any_eq_true.2 ⟨_,List.getElem_mem h,hp⟩
theorem zzn (N:Nat) (l:List Att) (a:Att) (hl:l.length≤1000) (hN:1000<N):yb (Ev.upto N) ((l,()),((a,()),()))=some ((hasA l a.1,()),((a,()),())):=by
 apply zr9
 unfold yb y6
 refine zc6 ?_
 refine zc6 ?_
 refine zrk (σ:=Unit) (fun i _=>((l,((l.length:Int),((i:Int),()))),((a,()),()))) (fun i _=>(l.take i).any (fun x=>x.1==a.1)=false) l.length () rfl (by simp) (by omega) ?_
 rintro i _ hi hn
 by_cases hi':i<l.length
 ·have c0:decide ((i:Int)<(l.length:Int))=true:=decide_eq_true (by omega)
  have w:IntKind.wrap .i64 ((i:Int)+1)=((i+1:Nat):Int):=by rw [jm (by omega) (by omega)];omega
  simp -implicitDefEqProofs only [c0,cond_true,jv hi',Option.bind_some,ww,w]
  cases hc:(l[i].1==a.1) with
  | true=>
   have:hasA l a.1=true:=z9g hi' hc
   exact⟨_,rfl,_,rfl,_,rfl,by rw [this,show decide (((i:Nat):Int)≥0)=true from decide_eq_true (by omega)]⟩
  | false=>exact⟨_,rfl,hi',(),rfl,by rw [z43 hi',hn,hc];rfl⟩
 ·have c0:decide ((i:Int)<(l.length:Int))=false:=decide_eq_false (by omega)
  rw [List.take_of_length_le (by omega)]at hn
  simp -implicitDefEqProofs only [c0,cond_false]
  exact⟨_,rfl,_,rfl,_,rfl,by rw [show hasA l a.1=false from hn];rfl⟩
def attE (s:Bs) (i:Nat):Nat:=i+1+ku zrl s (i+1)
def attN (s:Bs) (i:Nat):Bs:=zmb ((s.take (attE s i)).drop i)
def attB (s:Bs) (i:Nat):Nat:=attE s i+ku zc8 s (attE s i)
def attV (s:Bs) (i:Nat):Nat:=attB s i+1+ku zc8 s (attB s i+1)
def attF (s:Bs) (i:Nat) (k:Int) (l:List Att):List Fl:=if (k==2)=true then (if hasA l (attN s i)=true then [(142,(i:Int))] else if 30≤l.length then [(2,(i:Int))] else []) else []
def attT (s:Bs) (i:Nat) (k:Int) (l:List Att):Bool:=k==2&&(!hasA l (attN s i) && !decide (30≤l.length))
def attS (s:Bs) (i:Nat) (k:Int) (l:List Att):Bool×Nat×List Att×List Fl:=
 if isB s (attB s i) [61]=true then
  ((valP s (attV s i)).2.1,(valP s (attV s i)).2.2.1,(bif attT s i k l then l ++ [(attN s i,(valP s (attV s i)).1)] else l),attF s i k l++(valP s (attV s i)).2.2.2)
 else (true,attE s i,(bif attT s i k l then l ++ [(attN s i,[])] else l),attF s i k l)
theorem z0v {s:Bs} {i:Nat} (h:i<s.length):i<attE s i∧attE s i≤s.length:=by
 have:=zfi zrl s (i+1) (by omega)
 unfold attE;omega
theorem z0w {s:Bs} {i:Nat} (h:i<s.length):attE s i≤attB s i∧attB s i≤s.length:=by
 have:=zfi zc8 s (attE s i) (z0v h).2
 unfold attB;omega
theorem zrn {s:Bs} {i:Nat} {l:Bs} (h:isB s i l=true) (hi:i≤s.length):i+l.length≤s.length:=by
 unfold isB at h
 have:=of_decide_eq_true (Bool.and_eq_true _ _▸h:_∧_).1
 omega
theorem z44 {s:Bs} {i:Nat} (h:i<s.length) (hb:isB s (attB s i) [61]=true):attB s i<attV s i∧attV s i≤s.length:=by
 have h1:=zrn hb (z0w h).2
 have:=zfi zc8 s (attB s i+1) (by simpa using h1)
 unfold attV;omega
abbrev cur9 (s:Bs) (i:Nat) (k:Int) (n d:Bs) (c:Bool) (out:List Tok) (f:List Fl) (l:List Att):(Bs×Int×Unit)×(Int×Bs×Bs×Bool×Unit)×(List Tok)×(List Fl)×(List Att)×Unit:=((s,((i:Int),())),((k,(n,(d,(c,())))),(out,(f,(l,())))))
theorem z9h (N:Nat) (s:Bs) (i:Nat) (k:Int) (n d:Bs) (c:Bool) (out:List Tok) (f:List Fl) (l:List Att) (hi:i<s.length) (hs:s.length≤15000) (hf:f.length≤800000000) (hl:l.length≤30) (hN:s.length<N) (hN2:1000<N) :
  kw (Ev.upto N) ((),cur9 s i k n d c out f l)=some (((attS s i k l).1,()),cur9 s (attS s i k l).2.1 k n d c out (f++(attS s i k l).2.2.2) (attS s i k l).2.2.1):=by
 have eE:=z0v hi
 have eB:=z0w hi
 have w1:IntKind.wrap .i64 (((i:Nat):Int)+1)=((i+1:Nat):Int):=by rw [jm (by omega) (by omega)];omega
 have q1:=z0t N s (i+1) out f (by omega) (by omega) hN
 rw [show i+1+ku zrl s (i+1)=attE s i from rfl]at q1
 have q2:sl s ((i:Nat):Int) ((attE s i:Nat):Int)=some ((s.take (attE s i)).drop i):=zeh (by omega) eE.2
 have q3:=zsn N ((s.take (attE s i)).drop i) (by simp;omega) (by simp;omega)
 rw [show zmb ((s.take (attE s i)).drop i)=attN s i from rfl]at q3
 have q4:=zzn N l (attN s i,[]) (by omega) hN2
 have q5:=zkj (Ev.upto N) 142 (i:Int) s (attE s i) out f (by omega)
 have q6:=zkj (Ev.upto N) 2 (i:Int) s (attE s i) out f (by omega)
 have q7:=fun f'=>zrm N s (attE s i) out f' eE.2 (by omega) hN
 rw [show attE s i+ku zc8 s (attE s i)=attB s i from rfl]at q7
 have q8:=fun f'=>z3a N [61] s (attB s i) out f' eB.2 (by omega) (by decide) hN
 have fl:∀a:Att,fits (l.length+([a]:List Att).length) 32=true:=fun a=>zc7 (by simp;omega)
 unfold kw
 simp -implicitDefEqProofs only [Option.bind_some,w1,q1,q2,q3]
 rw [if_pos (decide_eq_true trivial)]
 simp -implicitDefEqProofs only [Option.bind_some]

 have tail:∀(tk:Bool) (f':List Fl),f'.length≤810000000 →
   (((jc (Ev.upto N) ((),cur s (attE s i) out f')).bind fun v16=>((zy (Ev.upto N) ((([61]:Bs),()),((v16.2.1.1,(v16.2.1.2.1,())),(v16.2.2.1,(v16.2.2.2.1,()))))).bind fun v17=>((bif v17.1.1 then ((jc (Ev.upto N) ((),((v17.2.1.1,((IntKind.wrap .i64 (v17.2.1.2.1+(1:Int))),())),(v17.2.2.1,(v17.2.2.2.1,()))))).bind fun v18=>((qu (Ev.upto N) ((),((v18.2.1.1,(v18.2.1.2.1,())),(v18.2.2.1,(v18.2.2.2.1,()))))).bind fun v19=>(some ((tk,(v19.1.2.1,())),((v19.2.1.1,(v19.2.1.2.1,())),((k,(n,(d,(c,())))),(((attN s i,v19.1.1),()),(v19.2.2.1,(v19.2.2.2.1,(l,())))))))))) else (some ((tk,(true,())),((v17.2.1.1,(((attE s i:Nat):Int),())),((k,(n,(d,(c,())))),(((attN s i,([]:Bs)),()),(v17.2.2.1,(v17.2.2.2.1,(l,()))))))))):Option ((Bool×Bool×Unit)×((Bs×Int×Unit)×(Int×Bs×Bs×Bool×Unit)×(Att×Unit)×(List Tok)×(List Fl)×(List Att)×Unit))).bind fun o20=>((bif o20.1.1 then (bif fits ((o20.2.2.2.2.2.2.1).length+(([o20.2.2.2.1.1]:List Att)).length) 32 then (some ((o20.1.2.1,()),((o20.2.1.1,(o20.2.1.2.1,())),((o20.2.2.1.1,(o20.2.2.1.2.1,(o20.2.2.1.2.2.1,(o20.2.2.1.2.2.2.1,())))),(o20.2.2.2.2.1,(o20.2.2.2.2.2.1,((o20.2.2.2.2.2.2.1++([o20.2.2.2.1.1]:List Att)),()))))))) else none) else (some ((o20.1.2.1,()),((o20.2.1.1,(o20.2.1.2.1,())),((o20.2.2.1.1,(o20.2.2.1.2.1,(o20.2.2.1.2.2.1,(o20.2.2.1.2.2.2.1,())))),(o20.2.2.2.2.1,(o20.2.2.2.2.2.1,(o20.2.2.2.2.2.2.1,())))))))).bind fun o21=>(some ((o21.1.1,()),((o21.2.1.1,(o21.2.1.2.1,())),((o21.2.2.1.1,(o21.2.2.1.2.1,(o21.2.2.1.2.2.1,(o21.2.2.1.2.2.2.1,())))),(o21.2.2.2.1,(o21.2.2.2.2.1,(o21.2.2.2.2.2.1,()))))))))))) =
    if isB s (attB s i) [61]=true then some (((valP s (attV s i)).2.1,()),cur9 s (valP s (attV s i)).2.2.1 k n d c out (f'++(valP s (attV s i)).2.2.2) (bif tk then l ++ [(attN s i,(valP s (attV s i)).1)] else l))
    else some ((true,()),cur9 s (attE s i) k n d c out f' (bif tk then l ++ [(attN s i,[])] else l)):=by
  intro tk f' hf'
  simp -implicitDefEqProofs only [q7 f',Option.bind_some,q8 f']
  cases hb:isB s (attB s i) [61] with
  | true=>
   have eV:=z44 hi hb
   have h1:=zrn hb eB.2
   have w2:IntKind.wrap .i64 (((attB s i:Nat):Int)+1)=((attB s i+1:Nat):Int):=by rw [jm (by omega) (by omega)];omega
   have q9:=zrm N s (attB s i+1) out f' (by simpa using h1) (by omega) hN
   rw [show attB s i+1+ku zc8 s (attB s i+1)=attV s i from rfl]at q9
   have q10:=z63 N s (attV s i) out f' eV.2 (by omega) (by omega) hN (by omega)
   rw [if_pos rfl]
   simp -implicitDefEqProofs only [cond_true,w2,q9,q10,Option.bind_some]
   cases tk with
   | true=>
    simp -implicitDefEqProofs only [cond_true,fl,Option.bind_some]
   | false=>rfl
  | false=>
   rw [if_neg (by simp)]
   simp -implicitDefEqProofs only [cond_false,Option.bind_some]
   cases tk with
   | true=>
    simp -implicitDefEqProofs only [cond_true,fl,Option.bind_some]
   | false=>rfl
 cases hk:(k==2) with
 | false=>
  have hF:attF s i k l = []:=by unfold attF;rw [hk];rfl
  have hT:attT s i k l=false:=by unfold attT;rw [hk];rfl
  have t1:=tail false f (by omega)
  simp -implicitDefEqProofs only [show (false==true)=false from rfl,cond_false,Option.bind_some]
  refine Eq.trans t1 ?_
  unfold attS
  rw [hF,hT]
  split
  ·rfl
  ·rw [List.append_nil]
 | true=>
  simp -implicitDefEqProofs only [beq_self_eq_true,cond_true,Option.bind_some,q4]
  cases hd:hasA l (attN s i) with
  | true=>
   have hF:attF s i k l = [(142,(i:Int))]:=by unfold attF;rw [hk,if_pos rfl,hd,if_pos rfl]
   have hT:attT s i k l=false:=by unfold attT;rw [hk,hd];rfl
   have t1:=tail false (f ++ [(142,(i:Int))]) (by simp;omega)
   simp -implicitDefEqProofs only [q5,Option.bind_some,cond_true,cond_false,show (false==true)=false from rfl]
   refine Eq.trans t1 ?_
   unfold attS
   rw [hF,hT]
   split
   ·rw [List.append_assoc]
   ·rfl
  | false=>
   simp -implicitDefEqProofs only [cond_false,beq_self_eq_true,cond_true,Option.bind_some]
   by_cases h30:30≤l.length
   ·have hF:attF s i k l = [(2,(i:Int))]:=by unfold attF;rw [hk,if_pos rfl,hd,if_neg (by simp),if_pos h30]
    have hT:attT s i k l=false:=by unfold attT;rw [hk,hd,show decide (30≤l.length)=true from decide_eq_true h30];rfl
    have t1:=tail false (f ++ [(2,(i:Int))]) (by simp;omega)
    simp -implicitDefEqProofs only [show decide ((l.length:Int)≥30)=true from decide_eq_true (by omega),q6,Option.bind_some,cond_true]
    refine Eq.trans t1 ?_
    unfold attS
    rw [hF,hT]
    split
    ·rw [List.append_assoc]
    ·rfl
   ·have hF:attF s i k l = []:=by unfold attF;rw [hk,if_pos rfl,hd,if_neg (by simp),if_neg h30]
    have hT:attT s i k l=true:=by unfold attT;rw [hk,hd,show decide (30≤l.length)=false from decide_eq_false h30];rfl
    have t1:=tail true f (by omega)
    simp -implicitDefEqProofs only [show decide ((l.length:Int)≥30)=false from decide_eq_false (by omega),Option.bind_some,cond_false]
    refine Eq.trans t1 ?_
    unfold attS
    rw [hF,hT]
    split
    ·rfl
    ·rw [List.append_nil]
def ya3 (out:List Tok):Bool:=match out[out.length-1]? with
 | some u=>u.1==1
 | none=>false
def z45 (out:List Tok) (d:Bs):List Tok:=match out[out.length-1]? with
 | some u=>out.set (out.length-1) (u.1,(u.2.1,(u.2.2.1++d,u.2.2.2)))
 | none=>out
def zln (out:List Tok) (t:Tok):List Tok:=
 if (t.1==1)=true then (if (t.2.2.1==([]:Bs))=true then out else if ya3 out=true then z45 out t.2.2.1 else out ++ [t]) else out ++ [t]
def okO (out:List Tok):Prop:=out.length≤1000000000∧∀u∈out,u.2.2.1.length≤1000000000000
theorem zqy (V:Ev) (t:Tok) (s:Bs) (i:Nat) (out:List Tok) (f:List Fl) (ho:okO out) (ht:t.2.2.1.length≤1000000000000):zq V ((t,()),cur s i out f)=some ((),cur s i (zln out t) f):=by
 obtain⟨h1,h2⟩:=ho
 have w:IntKind.wrap .i64 ((out.length:Int)-1)=(out.length:Int)-1:=jm (by omega) (by omega)
 have g:fits (out.length+([t]:List Tok).length) 72=true:=ya1 (by simp;omega)
 have g':fits (out.length+([(t.1,(t.2.1,(t.2.2.1,t.2.2.2)))]:List Tok).length) 72=true:=g
 unfold zq zln
 cases k1:(t.1==1) with
 | false=>
  simp -implicitDefEqProofs only [Option.bind_some,show (false==true)=false from rfl,cond_false,w,k1]
  rw [g,cond_true,if_neg (by simp)]
  rfl
 | true=>
  rw [if_pos rfl]
  cases k2:(t.2.2.1==([]:Bs)) with
  | true=>
   rw [if_pos rfl]
   simp -implicitDefEqProofs only [Option.bind_some,beq_self_eq_true,cond_true,w,k1,k2]
  | false=>
   rw [if_neg (by simp)]
   by_cases hz:out.length=0
   ·have:out = []:=List.length_eq_zero_iff.1 hz
    subst this
    have c1:(decide (((([]:List Tok).length:Int)-1)≥0)==true)=false:=rfl
    simp -implicitDefEqProofs only [Option.bind_some,beq_self_eq_true,cond_true,cond_false,w,k1,k2,c1]
    rw [g,cond_true]
    rfl
   ·have hl:out.length-1<out.length:=by omega
    have c1:(decide (((out.length:Int)-1)≥0)==true)=true:=by rw [show decide (((out.length:Int)-1)≥0)=true from decide_eq_true (by omega)];rfl
    have c2:(decide (0≤((out.length:Int)-1))&&decide (((out.length:Int)-1)<(out.length:Int)))=true:=by
     rw [show decide (0≤((out.length:Int)-1))=true from decide_eq_true (by omega),show decide (((out.length:Int)-1)<(out.length:Int))=true from decide_eq_true (by omega)];rfl
    have c3:((out.length:Int)-1).toNat=out.length-1:=by omega
    have c4:out[out.length-1]? = some (out[out.length-1]):=List.getElem?_eq_getElem hl
    simp -implicitDefEqProofs only [Option.bind_some,beq_self_eq_true,cond_true,cond_false,w,k1,k2,c1,c2,c3,c4,ya3,z45]
    cases k3:(out[out.length-1].1==1) with
    | true=>
     have hb:=h2 _ (List.getElem_mem hl)
     have g2:zx (out[out.length-1].2.2.1.length+t.2.2.1.length)=true:=zx1 (by omega)
     simp -implicitDefEqProofs only [cond_true,g2,Option.bind_some,c2,c4]
     rw [if_pos trivial]
    | false=>
     simp -implicitDefEqProofs only [cond_false]
     rw [g,cond_true,if_neg (by simp)]
     rfl
def rawE (s n:Bs) (e:Nat):Bool:=isB s e ([60,47]++n)&&(match s[e+2+n.length]? with
 | some c=>zc8 c||(c==47||c==62)
 | none=>false)
def endP (s n:Bs) (i:Nat):Nat:=i+((List.range (s.length-i)).takeWhile (fun d=> !rawE s n (i+d))).length
theorem zzo (p:Nat→Bool):∀(m k a:Nat),k≤m→(∀d,a≤d→d<a+k→p d=true)→(k<m→p (a+k)=false)→((List.range' a m).takeWhile p).length=k
 | 0,k,a,hk,_,_=>by simp;omega
 | m+1,0,a,_,_,h2=>by
  have:=h2 (by omega)
  rw [Nat.add_zero]at this
  rw [List.range'_succ,List.takeWhile_cons,if_neg (by rw [this];decide)]
  rfl
 | m+1,k+1,a,hk,h1,h2=>by
  have:=h1 a (Nat.le_refl _) (by omega)
  rw [List.range'_succ,List.takeWhile_cons,if_pos this,List.length_cons,zzo p m k (a+1) (by omega) (fun d hd hd2=>h1 d (by omega) (by omega)) (fun h=>by rw [show a+1+k=a+(k+1) by omega];exact h2 (by omega))]
theorem z64 (p:Nat→Bool) (n k:Nat) (hk:k≤n) (h1:∀d,d<k→p d=true) (h2:k<n→p k=false):((List.range n).takeWhile p).length=k:=by
 rw [List.range_eq_range']
 exact zzo p n k 0 hk (fun d _ hd=>h1 d (by omega)) (fun h=>by rw [Nat.zero_add];exact h2 h)
theorem z47 {s n:Bs} {i j:Nat} (hij:i≤j) (hj:j≤s.length) (h1:∀e,i≤e→e<j→rawE s n e=false) (h2:j<s.length→rawE s n j=true):endP s n i=j:=by
 unfold endP
 rw [z64 _ _ (j-i) (by omega) (fun d hd=>by rw [h1 (i+d) (by omega) (by omega)];rfl) (fun h=>by rw [show i+(j-i)=j by omega,h2 (by omega)];rfl)]
 omega
theorem z48 (s n:Bs) (i:Nat) (h:i≤s.length):i≤endP s n i∧endP s n i≤s.length:=by
 unfold endP
 have:((List.range (s.length-i)).takeWhile (fun d=> !rawE s n (i+d))).length≤(List.range (s.length-i)).length:=(List.takeWhile_prefix _).length_le
 rw [List.length_range]at this
 omega
def rawX (s n:Bs) (i:Nat):Bs:=(s.take (endP s n i)).drop i
def rawS (s n:Bs) (i:Nat) (out:List Tok) (f:List Fl):Nat×List Tok×List Fl:=
 (endP s n i,zln out (tx (bif zhk n then rawX s n i else (dec (rawX s n i) 0).1)),f++(bif zhk n then [] else (dec (rawX s n i) (i:Nat)).2)++(if endP s n i=s.length then [(140,(i:Int))] else []))
theorem ya4 (N:Nat) (s n:Bs) (i:Nat) (out:List Tok) (f:List Fl) (hi:i≤s.length) (hs:s.length≤15000) (hn:n.length≤15000) (ho:okO out) (hf:f.length≤800000000) (hN:s.length+1<N) (h8:8<N) :
  wj (Ev.upto N) ((n,()),cur s i out f)=some ((),cur s (rawS s n i out f).1 (rawS s n i out f).2.1 (rawS s n i out f).2.2):=by
 apply zr9
 unfold wj
 simp -implicitDefEqProofs only [Option.bind_some]
 refine zc6 ?_
 have f0:zx (([60,47]:Bs).length+n.length)=true:=zx1 (by simp;omega)

 have fin:∀(en:Bool) (j:Nat),endP s n i=j→(en=true↔j<s.length) →
   wp ((sl s ((i:Nat):Int) ((j:Nat):Int)).bind fun v13=>((vx (Ev.upto N) ((n,()),())).bind fun v14=>((bif (!v14.1.1) then ((zz (Ev.upto N) ((v13,(((i:Nat):Int),())),cur s j out f)).bind fun v15=>(some ((((i:Nat):Int),(en,(v15.1.1,()))),((v15.2.1.1,(v15.2.1.2.1,())),(v15.2.2.1,(v15.2.2.2.1,())))))) else (some ((((i:Nat):Int),(en,(v13,()))),cur s j out f)):Option ((Int×Bool×Bs×Unit)×((Bs×Int×Unit)×(List Tok)×(List Fl)×Unit))).bind fun o16=>((zq (Ev.upto N) ((((1:Int),(([]:Bs),(o16.1.2.2.1,(([]:List Att),false)))),()),((o16.2.1.1,(o16.2.1.2.1,())),(o16.2.2.1,(o16.2.2.2.1,()))))).bind fun v17=>((bif (!o16.1.2.1) then ((zi (Ev.upto N) (((140:Int),(o16.1.1,())),((v17.2.1.1,(v17.2.1.2.1,())),(v17.2.2.1,(v17.2.2.2.1,()))))).bind fun v18=>(some ((),((v18.2.1.1,(v18.2.1.2.1,())),(v18.2.2.1,(v18.2.2.2.1,())))))) else (some ((),((v17.2.1.1,(v17.2.1.2.1,())),(v17.2.2.1,(v17.2.2.2.1,()))))):Option (Unit×((Bs×Int×Unit)×(List Tok)×(List Fl)×Unit))).bind fun o19=>(some ((),((o19.2.1.1,(o19.2.1.2.1,())),(o19.2.2.1,(o19.2.2.2.1,()))))))))))
    (fun x=>x=((),cur s (rawS s n i out f).1 (rawS s n i out f).2.1 (rawS s n i out f).2.2)):=by
  intro en j hj hen
  have hle:=z48 s n i hi
  rw [hj]at hle
  have s1:sl s ((i:Nat):Int) ((j:Nat):Int)=some ((s.take j).drop i):=zeh hle.1 hle.2
  have hx:rawX s n i=(s.take j).drop i:=by unfold rawX;rw [hj]
  have hxl:((s.take j).drop i).length≤s.length:=by simp;omega
  have q1:=z12 (Ev.upto N) n
  have q2:=zjl N ((s.take j).drop i) i s j out f (by omega) (by omega) (by omega) (by omega) h8
  have hdl:=zl9 ((s.take j).drop i).length ((s.take j).drop i) 0 (Nat.le_refl _)
  have hdl2:=zl9 ((s.take j).drop i).length ((s.take j).drop i) (i:Nat) (Nat.le_refl _)
  unfold rawS
  rw [hx,hj]
  simp -implicitDefEqProofs only [s1,Option.bind_some,q1]
  cases hp:zhk n with
  | true=>
   have q3:=zqy (Ev.upto N) (tx ((s.take j).drop i)) s j out f ho (by show ((s.take j).drop i).length≤_;omega)
   simp -implicitDefEqProofs only [Bool.not_true,cond_false,cond_true,Option.bind_some,q3]
   cases en with
   | true=>
    rw [if_neg (by have:=hen.1 rfl;omega),List.append_nil,List.append_nil]
    exact⟨_,rfl,rfl⟩
   | false=>
    have q4:=zkj (Ev.upto N) 140 (i:Int) s j (zln out (tx ((s.take j).drop i))) f (by omega)
    have hje:j=s.length:=by
     by_cases h:j<s.length
     ·exact absurd (hen.2 h) (by decide)
     ·omega
    rw [if_pos hje,List.append_nil]
    simp -implicitDefEqProofs only [Bool.not_false,cond_true,q4,Option.bind_some]
    exact⟨_,rfl,rfl⟩
  | false=>
   have q3:=zqy (Ev.upto N) (tx (dec ((s.take j).drop i) 0).1) s j out (f++(dec ((s.take j).drop i) (i:Nat)).2) ho (by show (dec ((s.take j).drop i) 0).1.length≤_;omega)
   simp -implicitDefEqProofs only [Bool.not_false,cond_false,cond_true,Option.bind_some,q2,q3]
   cases en with
   | true=>
    rw [if_neg (by have:=hen.1 rfl;omega),List.append_nil]
    exact⟨_,rfl,rfl⟩
   | false=>
    have q4:=zkj (Ev.upto N) 140 (i:Int) s j (zln out (tx (dec ((s.take j).drop i) 0).1)) (f++(dec ((s.take j).drop i) (i:Nat)).2) (by simp;omega)
    have hje:j=s.length:=by
     by_cases h:j<s.length
     ·exact absurd (hen.2 h) (by decide)
     ·omega
    rw [if_pos hje]
    simp -implicitDefEqProofs only [Bool.not_false,cond_true,q4,Option.bind_some]
    exact⟨_,rfl,rfl⟩
 refine z0p (fun a=>∃j,a=((n,(((i:Nat):Int),(false,()))),cur s j out f)∧i≤j∧j≤s.length∧∀e,i≤e→e<j→rawE s n e=false) (fun a=>s.length-a.2.1.2.1.toNat) ⟨i,rfl,Nat.le_refl _,hi,fun e h1 h2=>absurd h1 (by omega)⟩ (by simp;omega) ?_
 rintro _ ⟨j,rfl,hij,hj,hno⟩
 by_cases hjl:j<s.length
 ·have c0:decide ((j:Int)<(s.length:Int))=true:=decide_eq_true (by omega)
  have q1:=z3a N ([60,47]++n) s j out f hj (by omega) (by simp;omega) (by omega)
  have w1:IntKind.wrap .i64 ((j:Int)+1)=((j+1:Nat):Int):=by rw [jm (by omega) (by omega)];omega
  have w2:IntKind.wrap .i64 ((j:Int)+2)=((j+2:Nat):Int):=by rw [jm (by omega) (by omega)];omega
  have w3:IntKind.wrap .i64 (((j+2:Nat):Int)+(n.length:Int))=((j+2+n.length:Nat):Int):=by rw [jm (by omega) (by omega)];omega
  have step:∀b:Bool,rawE s n j=b→wp ((some ((n,(((i:Nat):Int),(false,(b,())))),cur s j out f):Option ((Bs×Int×Bool×Bool×Unit)×((Bs×Int×Unit)×(List Tok)×(List Fl)×Unit)))) (fun o8=>rawE s n j=b∧o8=((n,(((i:Nat):Int),(false,(b,())))),cur s j out f)):=fun b hb=>⟨_,rfl,hb,rfl⟩
  have inner:wp ((bif zx ((([60,47]:Bs)).length+(n).length) then ((zy (Ev.upto N) (((([60,47]:Bs)++n),()),cur s j out f)).bind fun v3=>(bif (v3.1.1==true) then (bif (decide ((IntKind.wrap .i64 ((IntKind.wrap .i64 ((j:Int)+(2:Int)))+((n).length:Int)))<((v3.2.1.1).length:Int))==true) then ((idx v3.2.1.1 (IntKind.wrap .i64 ((IntKind.wrap .i64 ((j:Int)+(2:Int)))+((n).length:Int)))).bind fun v4=>((xw (Ev.upto N) ((((v4).toNat:Int),()),())).bind fun v5=>(bif (v5.1.1==false) then ((idx v3.2.1.1 (IntKind.wrap .i64 ((IntKind.wrap .i64 ((j:Int)+(2:Int)))+((n).length:Int)))).bind fun v6=>(bif ((((v6).toNat:Int)==(47:Int))==false) then ((idx v3.2.1.1 (IntKind.wrap .i64 ((IntKind.wrap .i64 ((j:Int)+(2:Int)))+((n).length:Int)))).bind fun v7=>(some ((n,(((i:Nat):Int),(false,((((v7).toNat:Int)==(62:Int)),())))),((v3.2.1.1,(v3.2.1.2.1,())),(v3.2.2.1,(v3.2.2.2.1,())))))) else (some ((n,(((i:Nat):Int),(false,(true,())))),((v3.2.1.1,(v3.2.1.2.1,())),(v3.2.2.1,(v3.2.2.2.1,()))))))) else (some ((n,(((i:Nat):Int),(false,(true,())))),((v3.2.1.1,(v3.2.1.2.1,())),(v3.2.2.1,(v3.2.2.2.1,())))))))) else (some ((n,(((i:Nat):Int),(false,(false,())))),((v3.2.1.1,(v3.2.1.2.1,())),(v3.2.2.1,(v3.2.2.2.1,())))))) else (some ((n,(((i:Nat):Int),(false,(false,())))),((v3.2.1.1,(v3.2.1.2.1,())),(v3.2.2.1,(v3.2.2.2.1,()))))))) else none):Option ((Bs×Int×Bool×Bool×Unit)×((Bs×Int×Unit)×(List Tok)×(List Fl)×Unit))) (fun o8=>o8=((n,(((i:Nat):Int),(false,(rawE s n j,())))),cur s j out f)):=by
   simp -implicitDefEqProofs only [f0,cond_true,q1,Option.bind_some,w2,w3]
   unfold rawE
   cases hb:isB s j ([60,47]++n) with
   | false=>exact⟨_,rfl,rfl⟩
   | true=>
    by_cases hk:j+2+n.length<s.length
    ·have c2:(decide (((j+2+n.length:Nat):Int)<(s.length:Int))==true)=true:=by rw [show decide (((j+2+n.length:Nat):Int)<(s.length:Int))=true from decide_eq_true (by omega)];rfl
     have g:s[j+2+n.length]? = some s[j+2+n.length]:=List.getElem?_eq_getElem hk
     have q2:=zx2 (Ev.upto N) s[j+2+n.length]
     have n62:((s[j+2+n.length].toNat:Int)==62)=(s[j+2+n.length]==62):=by rw [Bool.eq_iff_iff,beq_iff_eq,beq_iff_eq];exact⟨fun h=>UInt8.toNat_inj.1 (by show _=62;omega),fun h=>by rw [h];rfl⟩
     have n47:((s[j+2+n.length].toNat:Int)==47)=(s[j+2+n.length]==47):=by rw [Bool.eq_iff_iff,beq_iff_eq,beq_iff_eq];exact⟨fun h=>UInt8.toNat_inj.1 (by show _=47;omega),fun h=>by rw [h];rfl⟩
     rw [g]
     simp -implicitDefEqProofs only [beq_self_eq_true,cond_true,c2,jv hk,Option.bind_some,q2,n62,n47]
     cases zc8 s[j+2+n.length] with
     | true=>exact⟨_,rfl,rfl⟩
     | false=>
      cases (s[j+2+n.length]==47) with
      | true=>exact⟨_,rfl,rfl⟩
      | false=>exact⟨_,rfl,rfl⟩
    ·have c2:(decide (((j+2+n.length:Nat):Int)<(s.length:Int))==true)=false:=by rw [show decide (((j+2+n.length:Nat):Int)<(s.length:Int))=false from decide_eq_false (by omega)];rfl
     have g:s[j+2+n.length]? = none:=List.getElem?_eq_none (by omega)
     rw [g]
     simp -implicitDefEqProofs only [beq_self_eq_true,cond_true,c2,cond_false]
     exact⟨_,rfl,rfl⟩
  obtain⟨_,e1,rfl⟩:=inner
  simp -implicitDefEqProofs only [c0,cond_true]
  rw [e1]
  cases hr:rawE s n j with
  | true=>
   refine⟨_,rfl,?_⟩
   exact fin true j (z47 hij hj hno (fun _=>hr)) ⟨fun _=>hjl,fun _=>rfl⟩
  | false=>
   simp -implicitDefEqProofs only [Option.bind_some,cond_false,w1]
   refine⟨_,rfl,⟨j+1,rfl,by omega,by omega,?_⟩,by simp;omega⟩
   intro e h1 h2
   by_cases he:e=j
   ·rw [he];exact hr
   ·exact hno e h1 (by omega)
 ·have c0:decide ((j:Int)<(s.length:Int))=false:=decide_eq_false (by omega)
  simp -implicitDefEqProofs only [c0,cond_false,Option.bind_some]
  refine⟨_,rfl,?_⟩
  exact fin false j (z47 hij hj hno (fun h=>absurd h hjl)) ⟨fun h=>(by cases h),fun h=>absurd h hjl⟩
theorem zup (c:UInt8) (k:Nat) (hk:k<256):(((c.toNat:Nat):Int)==(k:Int))=(c==UInt8.ofNat k):=by
 rw [Bool.eq_iff_iff,beq_iff_eq,beq_iff_eq]
 constructor
 ·intro h;apply UInt8.toNat_inj.1;rw [UInt8.toNat_ofNat'];omega
 ·intro h;rw [h,UInt8.toNat_ofNat'];omega
theorem zgh (x:Bs) (a:Int):(dec x a).2.length≤x.length:=(zl9 x.length x a (Nat.le_refl _)).2
theorem z9i (s:Bs) (i:Nat):(valP s i).2.2.2.length≤s.length:=by
 unfold valP
 split
 ·split
  ·refine Nat.le_trans (zgh _ _) ?_;simp;omega
  ·refine Nat.le_trans (zgh _ _) ?_;simp
 ·refine Nat.le_trans (zgh _ _) ?_;simp;omega
theorem z9j {s:Bs} {i:Nat} (h:i≤s.length):i≤(valP s i).2.2.1∧(valP s i).2.2.1≤s.length:=by
 unfold valP
 split
 ·rename_i hq
  have hlt:i<s.length:=by
   rcases Bool.or_eq_true _ _▸hq with h1 | h1
   ·have:=zrn h1 h;simp at this;omega
   ·have:=zrn h1 h;simp at this;omega
  split
  ·rename_i k hf
   have:=(zfj _ _ _ hf).1
   have hl1:((s.drop i).take 1).length=1:=by simp;omega
   rw [hl1]at this
   simp at this ⊢
   omega
  ·exact⟨h,Nat.le_refl _⟩
 ·have:=zfi zqx s i h
  simp only
  omega
theorem z65 (s:Bs) (i:Nat) (k:Int) (l:List Att):(attF s i k l).length≤1:=by
 unfold attF
 split
 ·split
  ·simp
  ·split<;>simp
 ·simp
theorem z49 (s:Bs) (i:Nat) (k:Int) (l:List Att):(attS s i k l).2.2.2.length≤s.length+1:=by
 have h1:=z65 s i k l
 have h2:=z9i s (attV s i)
 unfold attS
 split
 ·simp;omega
 ·simp;omega
theorem z5a (s:Bs) (i:Nat) (k:Int) (l:List Att) (h:l.length≤30):(attS s i k l).2.2.1.length≤30:=by
 have key:∀a:Att,(bif attT s i k l then l ++ [a] else l).length≤30:=fun a=>by
  cases ht:attT s i k l with
  | false=>exact h
  | true=>
   unfold attT at ht
   have:decide (30≤l.length)=false:=by
    cases hd:decide (30≤l.length) with
    | false=>rfl
    | true=>rw [hd]at ht;simp at ht
   have:=of_decide_eq_false this
   simp;omega
 unfold attS
 split
 ·exact key _
 ·exact key _
theorem z5b {s:Bs} {i:Nat} (k:Int) (l:List Att) (h:i<s.length):i<(attS s i k l).2.1∧(attS s i k l).2.1≤s.length:=by
 unfold attS
 have hE:=z0v h
 have hB:=z0w h
 split
 ·rename_i hb
  have hV:=z44 h hb
  have:=z9j hV.2
  simp only
  omega
 ·exact hE
theorem z5c {α:Type} (a b:List α):sl (a++b) (0:Int) (a.length:Int)=some a:=by
 have:=zeh (l:=a++b) (a:=0) (b:=a.length) (by omega) (by simp)
 simpa using this
def tagL (s:Bs) (k:Int):Nat→Nat→Bool→List Att→List Fl→Option (Nat×Bool×List Att×List Fl)
 | 0,_,_,_,_=>none
 | n+1,i,sl,l,g=>match s[i]? with
  | none=>none
  | some c=>if (c==62)=true then some (i,sl,l,g) else if (c==47||zc8 c)=true then tagL s k n (i+1) (c==47) l g
   else if (attS s i k l).1=true then tagL s k n (attS s i k l).2.1 false (attS s i k l).2.2.1 (g++(attS s i k l).2.2.2) else none
theorem z66 (s:Bs) (k:Int) (n i:Nat) (sl:Bool) (l:List Att) (g:List Fl) (h:s.length≤i):tagL s k n i sl l g=none:=by
 cases n with
 | zero=>rfl
 | succ n=>rw [tagL,List.getElem?_eq_none h]
def rawN (n:Bs):Bool:=n==([115,99,114,105,112,116]:Bs)||(n==([115,116,121,108,101]:Bs)||(n==([116,101,120,116,97,114,101,97]:Bs)||n==([116,105,116,108,101]:Bs)))
theorem ya5 (V:Ev) (n:Bs):zie V ((n,()),())=some ((rawN n,()),()):=by
 unfold zie rawN
 cases h1:(n==([115,99,114,105,112,116]:Bs)) with
 | true=>simp -implicitDefEqProofs only [h1,cond_true,Option.bind_some,Bool.true_or]
 | false=>
  cases h2:(n==([115,116,121,108,101]:Bs)) with
  | true=>simp -implicitDefEqProofs only [h1,h2,cond_true,cond_false,Option.bind_some,Bool.true_or,Bool.false_or]
  | false=>
   cases h3:(n==([116,101,120,116,97,114,101,97]:Bs)) with
   | true=>simp -implicitDefEqProofs only [h1,h2,h3,cond_true,cond_false,Option.bind_some,Bool.true_or,Bool.false_or]
   | false=>
    cases h4:(n==([116,105,116,108,101]:Bs)) with
    | true=>simp -implicitDefEqProofs only [h1,h2,h3,h4,cond_true,cond_false,Option.bind_some,Bool.true_or,Bool.false_or]
    | false=>simp -implicitDefEqProofs only [h1,h2,h3,h4,cond_true,cond_false,Option.bind_some,Bool.false_or]
def tagI (s:Bs) (i:Nat):Nat:=i+ku zsb s i
def tagN (s:Bs) (i:Nat):Bs:=zmb ((s.drop i).take (ku zsb s i))
def tagS (s:Bs) (k:Int) (fr i:Nat) (out:List Tok) (f:List Fl):Nat×List Tok×List Fl:=
 match tagL s k s.length (tagI s i) false [] [] with
 | none=>(s.length,out,f ++ [(140,(fr:Int))])
 | some (j,sl,l,g)=>if (k==2&&rawN (tagN s i))=true then rawS s (tagN s i) (j+1) (out ++ [(k,(tagN s i,([],(l,sl&&k==2))))]) (f++g) else (j+1,out ++ [(k,(tagN s i,([],(l,sl&&k==2))))],f++g)
theorem z77 (N:Nat) (s:Bs) (k:Int) (fr i:Nat) (out:List Tok) (f:List Fl) (hk:k=2∨k=3) (hi:i≤s.length) (hs:s.length≤15000) (hfr:fr≤15000) (ho:okO out) (ho2:out.length≤900000000) (hf:f.length≤490000000) (hN:s.length+1<N) (hN2:1000<N) :
  ju (Ev.upto N) ((k,((fr:Int),())),cur s i out f)=some ((),cur s (tagS s k fr i out f).1 (tagS s k fr i out f).2.1 (tagS s k fr i out f).2.2):=by
 have hsp:=zfi zsb s i hi
 have k1:(k==1)=false:=by rcases hk with rfl | rfl<;>rfl
 have q1:=z28 N s i out f hi (by omega) (by omega)
 have q2:=zsn N ((s.drop i).take (ku zsb s i)) (by simp;omega) (by simp;omega)
 rw [show zmb ((s.drop i).take (ku zsb s i))=tagN s i from rfl]at q2
 rw [show i+ku zsb s i=tagI s i from rfl]at q1 hsp
 have hnl:(tagN s i).length≤15000:=by unfold tagN;rw [zkk];simp;omega
 apply zr9
 unfold ju
 simp -implicitDefEqProofs only [Option.bind_some,q1,q2]
 unfold tagS
 generalize hR:tagL s k s.length (tagI s i) false [] []=R
 generalize hname:tagN s i=name at *
 refine zc6 ?_
 refine z0p (fun a=>∃(n j:Nat) (sl:Bool) (l:List Att) (g:List Fl),a=((k,((fr:Int),((f.length:Int),(sl,())))),((s,((j:Int),())),((k,(name,(([]:Bs),(false,())))),(out,(f++g,(l,()))))))∧tagI s i≤j∧j≤s.length∧s.length-j≤n∧l.length≤30∧g.length≤20000*j∧tagL s k n j sl l g=R) (fun a=>s.length-a.2.1.2.1.toNat) ⟨s.length,tagI s i,false,[],[],by rw [List.append_nil],Nat.le_refl _,hsp,by omega,by simp,by simp,hR⟩ (by simp;omega) ?_
 rintro _ ⟨n,j,sl,l,g,rfl,hij,hj,hn,hl,hg,hT⟩
 by_cases hjl:j<s.length
 ·have c0:decide ((j:Int)<(s.length:Int))=true:=decide_eq_true (by omega)
  have w1:IntKind.wrap .i64 ((j:Int)+1)=((j+1:Nat):Int):=by rw [jm (by omega) (by omega)];omega
  obtain⟨n,rfl⟩:∃m,n=m+1:=⟨n-1,by omega⟩
  rw [tagL,List.getElem?_eq_getElem hjl]at hT
  simp only at hT
  have e62:(((s[j].toNat:Nat):Int)==62)=(s[j]==62):=zup s[j] 62 (by decide)
  have e47:(((s[j].toNat:Nat):Int)==47)=(s[j]==47):=zup s[j] 47 (by decide)
  have qb:=zx2 (Ev.upto N) s[j]
  simp -implicitDefEqProofs only [c0,cond_true,jv hjl,Option.bind_some,e62]
  cases h62:(s[j]==62) with
  | true=>
   rw [h62,if_pos rfl]at hT
   subst hT
   have q3:=zqy (Ev.upto N) (k,(name,(([]:Bs),(l,sl&&k==2)))) s (j+1) out (f++g) ho (by simp)
   have hts:zln out (k,(name,(([]:Bs),(l,sl&&k==2))))=out ++ [(k,(name,(([]:Bs),(l,sl&&k==2))))]:=by unfold zln;rw [if_neg (by show ¬(k==1)=true;rw [k1];decide)]
   rw [hts]at q3
   have hcl:wp ((bif (sl==true) then (some ((k,()),((s,((IntKind.wrap .i64 ((j:Int)+(1:Int))),())),((k,(name,(([]:Bs),((k==(2:Int)),())))),(out,(f++g,(l,()))))))) else (some ((k,()),((s,((IntKind.wrap .i64 ((j:Int)+(1:Int))),())),((k,(name,(([]:Bs),(false,())))),(out,(f++g,(l,())))))))):Option ((Int×Unit)×((Bs×Int×Unit)×(Int×Bs×Bs×Bool×Unit)×(List Tok)×(List Fl)×(List Att)×Unit))) (fun o=>o=((k,()),((s,(((j+1:Nat):Int),())),((k,(name,(([]:Bs),(sl&&k==2,())))),(out,(f++g,(l,()))))))):=by
    rw [w1]
    cases sl
    ·exact⟨_,rfl,rfl⟩
    ·exact⟨_,rfl,rfl⟩
   obtain⟨_,e,rfl⟩:=hcl
   simp -implicitDefEqProofs only [cond_true,e,Option.bind_some,q3]
   have qr:=ya5 (Ev.upto N) name
   have hoo:okO (out ++ [(k,(name,(([]:Bs),(l,sl&&k==2))))]):=by
    refine⟨by simp;omega,?_⟩
    intro u hu
    rcases List.mem_append.1 hu with h | h
    ·exact ho.2 u h
    ·rw [List.mem_singleton.1 h];simp
   have q4:=ya4 N s name (j+1) (out ++ [(k,(name,(([]:Bs),(l,sl&&k==2))))]) (f++g) (by omega) hs hnl hoo (by simp;omega) hN (by omega)
   cases h2:(k==2) with
   | false=>
    rw [h2]at q3 q4
    simp -implicitDefEqProofs only [show (false==true)=false from rfl,cond_false,Option.bind_some,Bool.false_and]
    refine⟨_,rfl,?_⟩
    rw [if_neg (by decide)]
    exact⟨_,rfl,rfl⟩
   | true=>
    rw [h2]at q3 q4
    simp -implicitDefEqProofs only [beq_self_eq_true,cond_true,qr,Option.bind_some,Bool.true_and]
    cases hrn:rawN name with
    | true=>
     rw [if_pos rfl]
     simp -implicitDefEqProofs only [cond_true,q4,Option.bind_some]
     exact⟨_,rfl,_,rfl,rfl⟩
    | false=>
     rw [if_neg (by decide)]
     simp -implicitDefEqProofs only [cond_false,Option.bind_some]
     exact⟨_,rfl,_,rfl,rfl⟩
  | false=>
   rw [h62,if_neg (by decide)]at hT
   have hcl:wp ((bif ((((s[j]).toNat:Int)==(47:Int))==false) then ((xw (Ev.upto N) ((((s[j]).toNat:Int),()),())).bind fun v12=>(some ((k,((fr:Int),((f.length:Int),(((s[j]).toNat:Int),(v12.1.1,()))))),((s,((j:Int),())),((k,(name,(([]:Bs),(false,())))),(out,(f++g,(l,())))))))) else (some ((k,((fr:Int),((f.length:Int),(((s[j]).toNat:Int),(true,()))))),((s,((j:Int),())),((k,(name,(([]:Bs),(false,())))),(out,(f++g,(l,())))))))):Option ((Int×Int×Int×Int×Bool×Unit)×((Bs×Int×Unit)×(Int×Bs×Bs×Bool×Unit)×(List Tok)×(List Fl)×(List Att)×Unit))) (fun o=>o=((k,((fr:Int),((f.length:Int),(((s[j]).toNat:Int),(s[j]==47||zc8 s[j],()))))),((s,((j:Int),())),((k,(name,(([]:Bs),(false,())))),(out,(f++g,(l,()))))))):=by
    rw [e47]
    cases (s[j]==47) with
    | true=>exact⟨_,rfl,rfl⟩
    | false=>
     simp -implicitDefEqProofs only [beq_self_eq_true,cond_true,qb,Option.bind_some,Bool.false_or]
     exact⟨_,rfl,rfl⟩
   obtain⟨_,e,rfl⟩:=hcl
   simp -implicitDefEqProofs only [cond_false]
   rw [e]
   cases hsb:(s[j]==47||zc8 s[j]) with
   | true=>
    rw [hsb,if_pos rfl]at hT
    simp -implicitDefEqProofs only [cond_true,Option.bind_some,w1,e47]
    exact⟨_,rfl,⟨n,j+1,s[j]==47,l,g,rfl,by omega,by omega,by omega,hl,by omega,hT⟩,by simp;omega⟩
   | false=>
    rw [hsb,if_neg (by decide)]at hT
    have q5:=z9h N s j k name [] false out (f++g) l hjl hs (by simp;omega) hl (by omega) hN2
    have al:=z5b k l hjl
    have fl:=z49 s j k l
    simp -implicitDefEqProofs only [cond_false,Option.bind_some,q5]
    cases hok:(attS s j k l).1 with
    | true=>
     rw [hok,if_pos rfl]at hT
     simp -implicitDefEqProofs only [Bool.not_true,cond_false,Option.bind_some]
     exact⟨_,rfl,⟨n,(attS s j k l).2.1,false,(attS s j k l).2.2.1,g++(attS s j k l).2.2.2,by rw [List.append_assoc],by omega,al.2,by omega,z5a s j k l hl,by simp;omega,hT⟩,by simp;omega⟩
    | false=>
     rw [hok,if_neg (by decide)]at hT
     subst hT
     simp -implicitDefEqProofs only [Bool.not_false,cond_true,Option.bind_some]
     refine⟨_,rfl,?_⟩
     have s1:=z5c f (g++(attS s j k l).2.2.2)
     have q6:=zkj (Ev.upto N) 140 (fr:Int) s (attS s j k l).2.1 out f (by omega)
     rw [←List.append_assoc]at s1
     simp -implicitDefEqProofs only [s1,Option.bind_some,q6]
     exact⟨_,rfl,rfl⟩
 ·have c0:decide ((j:Int)<(s.length:Int))=false:=decide_eq_false (by omega)
  rw [z66 s k n j _ _ _ (by omega)]at hT
  subst hT
  have s1:=z5c f g
  have q6:=zkj (Ev.upto N) 140 (fr:Int) s j out f (by omega)
  simp -implicitDefEqProofs only [c0,cond_false,Option.bind_some]
  refine⟨_,rfl,?_⟩
  simp -implicitDefEqProofs only [s1,Option.bind_some,q6]
  exact⟨_,rfl,rfl⟩
def zsc (s:Bs) (k:Int) (b:Nat) (e:Bs) (i:Nat) (out:List Tok) (f:List Fl):Nat×List Tok×List Fl:=
 match zlm (s.drop (i+b)) e with
 | some m=>(i+b+m+e.length,out ++ [(k,([],((bif k==5 then zun ((s.drop (i+b)).take m) else (s.drop (i+b)).take m),([],false))))],f)
 | none=>(s.length,out ++ [(k,([],((bif k==5 then zun (s.drop (i+b)) else s.drop (i+b)),([],false))))],f ++ [(140,(i:Int))])
theorem z17 (s:Bs):(zun s).length≤s.length:=by
 unfold zun
 exact z11 s z41
theorem z0x (N:Nat) (s:Bs) (k:Int) (b:Nat) (e:Bs) (i:Nat) (out:List Tok) (f:List Fl) (hk:k=4∨k=5) (hi:i+b≤s.length) (hs:s.length≤15000) (hb:b≤100) (ho:okO out) (hf:f.length≤490000000) :
  qf (Ev.upto N) ((k,((b:Int),(e,()))),cur s i out f)=some ((),cur s (zsc s k b e i out f).1 (zsc s k b e i out f).2.1 (zsc s k b e i out f).2.2):=by
 have w1:IntKind.wrap .i64 ((i:Int)+(b:Int))=((i+b:Nat):Int):=by rw [jm (by omega) (by omega)];omega
 have q1:=z42 (Ev.upto N) e s (i+b) out f hi (by omega)
 have tl:∀x:Bs,x.length≤15000→zln out (k,([],(x,([],false))))=out ++ [(k,([],(x,([],false))))]:=fun x _=>by
  unfold zln;rw [if_neg (by rcases hk with rfl | rfl<;>exact fun h=>(by cases h))]
 have qt:∀(x:Bs),zit (Ev.upto N) ((x,()),())=some ((zun x,()),()):=fun x=>rfl
 have tail:∀(x:Bs) (j:Nat) (f':List Fl),x.length≤15000 →
   (((bif (k==(5:Int)) then ((zit (Ev.upto N) ((x,()),())).bind fun v5=>(some ((k,(v5.1.1,())),cur s j out f'))) else (some ((k,(x,())),cur s j out f')):Option ((Int×Bs×Unit)×((Bs×Int×Unit)×(List Tok)×(List Fl)×Unit))).bind fun o6=>((zq (Ev.upto N) (((o6.1.1,(([]:Bs),(o6.1.2.1,(([]:List Att),false)))),()),((o6.2.1.1,(o6.2.1.2.1,())),(o6.2.2.1,(o6.2.2.2.1,()))))).bind fun v7=>(some ((),((v7.2.1.1,(v7.2.1.2.1,())),(v7.2.2.1,(v7.2.2.2.1,()))))))):Option (Unit×((Bs×Int×Unit)×(List Tok)×(List Fl)×Unit)))
    = some ((),cur s j (out ++ [(k,([],((bif k==5 then zun x else x),([],false))))]) f'):=by
  intro x j f' hx
  have hy:(bif k==5 then zun x else x).length≤15000:=by
   have:=z17 x
   cases (k==5)<;>simp only [cond_true,cond_false]<;>omega
  have q2:=zqy (Ev.upto N) (k,([],((bif k==5 then zun x else x),([],false)))) s j out f' ho (by show (bif k==5 then zun x else x).length≤_;omega)
  rw [tl _ hy]at q2
  cases h5:(k==5) with
  | true=>
   rw [h5]at q2
   simp only [cond_true]at q2
   simp -implicitDefEqProofs only [cond_true,qt,Option.bind_some,q2]
  | false=>
   rw [h5]at q2
   simp only [cond_false]at q2
   simp -implicitDefEqProofs only [cond_false,Option.bind_some,q2]
 unfold qf zsc
 simp -implicitDefEqProofs only [Option.bind_some,w1,q1]
 cases hf1:zlm (s.drop (i+b)) e with
 | some m=>
  have t1:=tail ((s.drop (i+b)).take m) (i+b+m+e.length) f (by simp;omega)
  simp -implicitDefEqProofs only [Option.bind_some,Bool.not_true,cond_false]
  exact t1
 | none=>
  have q3:=zkj (Ev.upto N) 140 (i:Int) s s.length out f (by omega)
  have t1:=tail (s.drop (i+b)) s.length (f ++ [(140,(i:Int))]) (by simp;omega)
  simp -implicitDefEqProofs only [Option.bind_some,Bool.not_false,cond_true,q3]
  exact t1
def chr (s:Bs) (j:Nat):UInt8:=(s[j]?).getD 32
theorem zzp {α:Type} {l:List α} {n:Nat} {x:α} (h:l[n]? = some x):idx l (n:Int)=some x:=by
 have hn:n<l.length:=(List.getElem?_eq_some_iff.1 h).1
 rw [jv hn,←h,List.getElem?_eq_getElem hn]
theorem z78 {s:Bs} {i k:Nat} (hi:i<s.length) (hk:k=1∨k=2):(s.drop i ++ [32,32])[k]? = some (chr s (i+k)):=by
 rw [List.getElem?_append,List.getElem?_drop,List.length_drop]
 unfold chr
 by_cases h:k<s.length-i
 ·rw [if_pos h,List.getElem?_eq_getElem (by omega)]
  rfl
 ·rw [if_neg h,List.getElem?_eq_none (by omega:s.length≤i+k)]
  have:k-(s.length-i)=0∨k-(s.length-i)=1:=by omega
  rcases this with h | h<;>rw [h]<;>rfl
def zzq (s:Bs) (i:Nat) (out:List Tok) (f:List Fl):Nat×List Tok×List Fl:=
 if zmc (chr s (i+1))=true then tagS s 2 i (i+1) out f
 else if (chr s (i+1)==47&&zmc (chr s (i+2)))=true then tagS s 3 i (i+2) out f
 else if isB s i [60,33,45,45]=true then zsc s 4 4 [45,45,62] i out f
 else if isB s i [60,33,100,111,99,116,121,112,101]=true then zsc s 5 9 [62] i out f
 else if (chr s (i+1)==33||(chr s (i+1)==63||chr s (i+1)==47))=true then zsc s 4 2 [62] i out (f ++ [(141,(i:Int))])
 else (i+1,zln out (tx [60]),f ++ [(141,(i:Int))])
theorem zuq {s:Bs} {j:Nat} (h:zmc (chr s j)=true):j<s.length:=by
 unfold chr at h
 cases hc:s[j]? with
 | some c=>exact(List.getElem?_eq_some_iff.1 hc).1
 | none=>rw [hc]at h;exact absurd h (by decide)
theorem zws {s:Bs} {j:Nat} {c:UInt8} (h:chr s j=c) (hc:c≠32):j<s.length:=by
 unfold chr at h
 cases hg:s[j]? with
 | some d=>exact(List.getElem?_eq_some_iff.1 hg).1
 | none=>rw [hg]at h;exact absurd h.symm hc
theorem z9k (N:Nat) (s:Bs) (i:Nat) (out:List Tok) (f:List Fl) (hi:i<s.length) (hs:s.length≤15000) (ho:okO out) (ho2:out.length≤900000000) (hf:f.length≤480000000) (hN:s.length+1<N) (hN2:1000<N) :
  kx (Ev.upto N) ((),cur s i out f)=some ((),cur s (zzq s i out f).1 (zzq s i out f).2.1 (zzq s i out f).2.2):=by
 have q0:=zx3 (Ev.upto N) s i out f (by omega)
 have g0:zx ((s.drop i).length+([32,32]:Bs).length)=true:=zx1 (by simp;omega)
 have i1:idx (s.drop i++([32,32]:Bs)) (1:Int)=some (chr s (i+1)):=zzp (n:=1) (z78 hi (Or.inl rfl))
 have i2:idx (s.drop i++([32,32]:Bs)) (2:Int)=some (chr s (i+2)):=zzp (n:=2) (z78 hi (Or.inr rfl))
 have l1:=zzm (Ev.upto N) (chr s (i+1))
 have l2:=zzm (Ev.upto N) (chr s (i+2))
 have w1:IntKind.wrap .i64 ((i:Int)+1)=((i+1:Nat):Int):=by rw [jm (by omega) (by omega)];omega
 have w2:IntKind.wrap .i64 ((i:Int)+2)=((i+2:Nat):Int):=by rw [jm (by omega) (by omega)];omega
 have q3:=z3a N [60,33,45,45] s i out f (by omega) (by omega) (by decide) (by omega)
 have q4:=z3a N [60,33,100,111,99,116,121,112,101] s i out f (by omega) (by omega) (by decide) (by omega)
 have e47:(((chr s (i+1)).toNat:Int)==47)=(chr s (i+1)==47):=zup _ 47 (by decide)
 have e33:(((chr s (i+1)).toNat:Int)==33)=(chr s (i+1)==33):=zup _ 33 (by decide)
 have e63:(((chr s (i+1)).toNat:Int)==63)=(chr s (i+1)==63):=zup _ 63 (by decide)
 unfold kx zzq
 simp -implicitDefEqProofs only [q0,Option.bind_some,g0,cond_true,i1,l1]
 cases hl1:zmc (chr s (i+1)) with
 | true=>
  have q5:=z77 N s 2 i (i+1) out f (Or.inl rfl) (by omega) hs (by omega) ho ho2 (by omega) hN hN2
  rw [if_pos rfl]
  simp -implicitDefEqProofs only [cond_true,w1,q5,Option.bind_some]
 | false=>
  rw [if_neg (by decide)]
  simp -implicitDefEqProofs only [cond_false,e47]
  have hc:wp ((bif ((chr s (i+1)==47)==true) then ((idx (s.drop i++([32,32]:Bs)) (2:Int)).bind fun v6=>((gk (Ev.upto N) ((((v6).toNat:Int),()),())).bind fun v7=>(some (((i:Int),((s.drop i++([32,32]:Bs)),(v7.1.1,()))),cur s i out f)))) else (some (((i:Int),((s.drop i++([32,32]:Bs)),(false,()))),cur s i out f)):Option ((Int×Bs×Bool×Unit)×((Bs×Int×Unit)×(List Tok)×(List Fl)×Unit)))) (fun o=>o=(((i:Int),((s.drop i++([32,32]:Bs)),(chr s (i+1)==47&&zmc (chr s (i+2)),()))),cur s i out f)):=by
   cases (chr s (i+1)==47) with
   | true=>
    simp -implicitDefEqProofs only [beq_self_eq_true,cond_true,i2,Option.bind_some,l2,Bool.true_and]
    exact⟨_,rfl,rfl⟩
   | false=>exact⟨_,rfl,rfl⟩
  obtain⟨_,e,rfl⟩:=hc
  rw [e]
  cases hl2:(chr s (i+1)==47&&zmc (chr s (i+2))) with
  | true=>
   have hlt:=zuq (Bool.and_eq_true _ _▸hl2:_∧_).2
   have q5:=z77 N s 3 i (i+2) out f (Or.inr rfl) (by omega) hs (by omega) ho ho2 (by omega) hN hN2
   rw [if_pos rfl]
   simp -implicitDefEqProofs only [cond_true,w2,q5,Option.bind_some]
  | false=>
   rw [if_neg (by decide)]
   simp -implicitDefEqProofs only [cond_false,Option.bind_some,q3]
   cases h4:isB s i [60,33,45,45] with
   | true=>
    have hlt:=zrn h4 (by omega)
    have q5:=z0x N s 4 4 [45,45,62] i out f (Or.inl rfl) (by simpa using hlt) hs (by decide) ho (by omega)
    rw [if_pos rfl]
    simp -implicitDefEqProofs only [cond_true,Option.bind_some]
    rw [show ((4:Nat):Int)=4 from rfl]at q5
    simp -implicitDefEqProofs only [q5,Option.bind_some]
   | false=>
    rw [if_neg (by decide)]
    simp -implicitDefEqProofs only [cond_false,Option.bind_some,q4]
    cases h5:isB s i [60,33,100,111,99,116,121,112,101] with
    | true=>
     have hlt:=zrn h5 (by omega)
     have q5:=z0x N s 5 9 [62] i out f (Or.inr rfl) (by simpa using hlt) hs (by decide) ho (by omega)
     rw [if_pos rfl]
     simp -implicitDefEqProofs only [cond_true,Option.bind_some]
     rw [show ((9:Nat):Int)=9 from rfl]at q5
     simp -implicitDefEqProofs only [q5,Option.bind_some]
    | false=>
     rw [if_neg (by decide)]
     simp -implicitDefEqProofs only [cond_false,Option.bind_some,i1,e33,e63,e47]
     have hc:wp ((bif ((chr s (i+1)==33)==false) then (bif ((chr s (i+1)==63)==false) then (some (((i:Int),(chr s (i+1)==47,())),cur s i out f)) else (some (((i:Int),(true,())),cur s i out f))) else (some (((i:Int),(true,())),cur s i out f)):Option ((Int×Bool×Unit)×((Bs×Int×Unit)×(List Tok)×(List Fl)×Unit)))) (fun o=>o=(((i:Int),(chr s (i+1)==33||(chr s (i+1)==63||chr s (i+1)==47),())),cur s i out f)):=by
      cases (chr s (i+1)==33)<;>cases (chr s (i+1)==63)<;>exact⟨_,rfl,rfl⟩
     obtain⟨_,e,rfl⟩:=hc
     rw [e]
     have q6:=zkj (Ev.upto N) 141 (i:Int) s i out f (by omega)
     cases h6:(chr s (i+1)==33||(chr s (i+1)==63||chr s (i+1)==47)) with
     | true=>
      have hlt:i+1<s.length:=by
       rcases Bool.or_eq_true _ _▸h6 with h | h
       ·exact zws (beq_iff_eq.1 h) (by decide)
       ·rcases Bool.or_eq_true _ _▸h with h | h
        ·exact zws (beq_iff_eq.1 h) (by decide)
        ·exact zws (beq_iff_eq.1 h) (by decide)
      have q5:=z0x N s 4 2 [62] i out (f ++ [(141,(i:Int))]) (Or.inl rfl) (by omega) hs (by decide) ho (by simp;omega)
      rw [show ((2:Nat):Int)=2 from rfl]at q5
      rw [if_pos rfl]
      simp -implicitDefEqProofs only [cond_true,Option.bind_some,q6,q5]
     | false=>
      have q5:=zqy (Ev.upto N) (tx [60]) s i out (f ++ [(141,(i:Int))]) ho (by decide)
      rw [if_neg (by decide)]
      simp -implicitDefEqProofs only [cond_false,Option.bind_some,q6,q5,w1]
def z67 (s:Bs) (i:Nat) (out:List Tok) (f:List Fl):Nat×List Tok×List Fl:=
 (i+ku zcr s i,zln out (tx (dec ((s.drop i).take (ku zcr s i)) 0).1),f++(dec ((s.drop i).take (ku zcr s i)) (i:Nat)).2)
abbrev St:=Nat×List Tok×List Fl
def stepS (s:Bs) (st:St):St:=if (chr s st.1==60)=true then zzq s st.1 st.2.1 st.2.2 else z67 s st.1 st.2.1 st.2.2
def runS (s:Bs):Nat→St→St
 | 0,st=>st
 | n+1,st=>if st.1<s.length then runS s n (stepS s st) else st
theorem zx4 (out:List Tok) (t:Tok):(zln out t).length≤out.length+1:=by
 unfold zln z45
 repeat' split
 all_goals simp
theorem zur (out:List Tok) (t:Tok) (B:Nat) (h:∀u∈out,u.2.2.1.length≤B):∀u∈zln out t,u.2.2.1.length≤B+t.2.2.1.length:=by
 intro u hu
 unfold zln at hu
 have app:u∈out ++ [t]→u.2.2.1.length≤B+t.2.2.1.length:=fun h1=>by
  rcases List.mem_append.1 h1 with h1 | h1
  ·have:=h u h1;omega
  ·rw [List.mem_singleton.1 h1];omega
 split at hu
 ·split at hu
  ·have:=h u hu;omega
  ·split at hu
   ·unfold z45 at hu
    split at hu
    ·rename_i v hv
     rcases List.mem_or_eq_of_mem_set hu with h1 | h1
     ·have:=h u h1;omega
     ·have:=h v (List.mem_of_getElem? hv)
      rw [h1]
      simp only [List.length_append]
      omega
    ·have:=h u hu;omega
   ·exact app hu
 ·exact app hu
theorem z0y (s:Bs) (k:Int):∀(n i:Nat) (sl:Bool) (l:List Att) (g:List Fl) (r:Nat×Bool×List Att×List Fl),tagL s k n i sl l g=some r→i≤r.1∧r.1<s.length∧r.2.2.2.length≤g.length+(r.1-i)*(s.length+1)
 | 0,i,sl,l,g,r,h=>by cases h
 | n+1,i,sl,l,g,r,h=>by
  rw [tagL]at h
  cases hc:s[i]? with
  | none=>rw [hc]at h;cases h
  | some c=>
   have hi:i<s.length:=(List.getElem?_eq_some_iff.1 hc).1
   rw [hc]at h
   simp only at h
   split at h
   ·cases h
    exact⟨Nat.le_refl _,hi,by simp⟩
   ·split at h
    ·obtain⟨h1,h2,h3⟩:=z0y s k n (i+1) _ _ _ _ h
     refine⟨by omega,h2,Nat.le_trans h3 ?_⟩
     have:(r.1-(i+1))*(s.length+1)≤(r.1-i)*(s.length+1):=Nat.mul_le_mul_right _ (by omega)
     omega
    ·split at h
     ·have al:=z5b k l hi
      have fl:=z49 s i k l
      obtain⟨h1,h2,h3⟩:=z0y s k n _ _ _ _ _ h
      refine⟨by omega,h2,Nat.le_trans h3 ?_⟩
      have e:(r.1-i)*(s.length+1)=(r.1-(attS s i k l).2.1)*(s.length+1)+((attS s i k l).2.1-i)*(s.length+1):=by
       rw [←Nat.add_mul];congr 1;omega
      have e2:1*(s.length+1)≤((attS s i k l).2.1-i)*(s.length+1):=Nat.mul_le_mul_right _ (by omega)
      rw [List.length_append,e]
      omega
     ·cases h
structure Inv (s:Bs) (st:St):Prop where
 le:st.1≤s.length
 len:st.2.1.length≤2*st.1
 data:∀u∈st.2.1,u.2.2.1.length≤70000*st.1
 fl:st.2.2.length≤32000*st.1
theorem Inv.okO {s:Bs} {st:St} (h:Inv s st) (hs:s.length≤15000):okO st.2.1:=⟨by have:=h.len;have:=h.le;omega,fun u hu=>by have:=h.data u hu;have:=h.le;omega⟩
theorem zds (x:Bs) (a:Int):(dec x a).1.length≤4*x.length:=(zl9 x.length x a (Nat.le_refl _)).1
theorem z9l {s n:Bs} {i j:Nat} {out:List Tok} {f:List Fl} (hs:s.length≤15000) (hj:j≤s.length) (hij:i+1≤j) (hl:out.length≤2*i+1) (hd:∀u∈out,u.2.2.1.length≤70000*i) (hf:f.length≤32000*i+15001*(j-i)):Inv s (rawS s n j out f)∧j≤(rawS s n j out f).1:=by
 have he:=z48 s n j hj
 have hx:(rawX s n j).length≤s.length:=by unfold rawX;simp;omega
 have h1:=zds (rawX s n j) 0
 have h2:=zgh (rawX s n j) (j:Nat)
 refine⟨⟨he.2,?_,?_,?_⟩,he.1⟩
 ·have h5:(rawS s n j out f).2.1.length≤out.length+1:=zx4 out (tx (bif zhk n then rawX s n j else (dec (rawX s n j) 0).1))
  have h6:(rawS s n j out f).1=endP s n j:=rfl
  omega
 ·intro u hu
  have:=zur out (tx (bif zhk n then rawX s n j else (dec (rawX s n j) 0).1)) _ hd u hu
  have hb:(bif zhk n then rawX s n j else (dec (rawX s n j) 0).1).length≤60000:=by cases zhk n<;>simp only [cond_true,cond_false]<;>omega
  show u.2.2.1.length≤70000*endP s n j
  have:u.2.2.1.length≤70000*i+(bif zhk n then rawX s n j else (dec (rawX s n j) 0).1).length:=this
  omega
 ·have h3:(bif zhk n then ([]:List Fl) else (dec (rawX s n j) (j:Nat)).2).length≤15000:=by cases zhk n<;>simp only [cond_true,cond_false,List.length_nil]<;>omega
  have h4:(if endP s n j=s.length then [((140:Int),(j:Int))] else ([]:List Fl)).length≤1:=by split<;>simp
  show (f++_++_).length≤32000*endP s n j
  rw [List.length_append,List.length_append]
  omega
theorem z5d {s:Bs} {k:Int} {i i1:Nat} {out:List Tok} {f:List Fl} (hs:s.length≤15000) (hi:i<i1) (hi1:i1≤s.length) (h:Inv s (i,out,f)):Inv s (tagS s k i i1 out f)∧i<(tagS s k i i1 out f).1:=by
 obtain⟨h0,h1,h2,h3⟩:=h
 simp only at h0 h1 h2 h3
 unfold tagS
 have hsp:=zfi zsb s i1 hi1
 cases hT:tagL s k s.length (tagI s i1) false [] [] with
 | none=>
  refine⟨⟨Nat.le_refl _,?_,?_,?_⟩,?_⟩
  ·show out.length≤2*s.length;omega
  ·intro u hu;have:=h2 u hu;show _≤70000*s.length;omega
  ·show (f++_).length≤32000*s.length;simp;omega
  ·show i<s.length;omega
 | some r=>
  obtain⟨j,sl,l,g⟩:=r
  obtain⟨a1,a2,a3⟩:=z0y s k _ _ _ _ _ _ hT
  simp only at a1 a2 a3
  have a4:i1≤tagI s i1:=by unfold tagI;omega
  have a5:(j-tagI s i1)*(s.length+1)≤(j-i)*15001:=Nat.mul_le_mul (by omega) (by omega)
  have hd:∀u∈out ++ [(k,(tagN s i1,(([]:Bs),(l,sl&&k==2))))],u.2.2.1.length≤70000*i:=fun u hu=>by
   rcases List.mem_append.1 hu with hu | hu
   ·exact h2 u hu
   ·rw [List.mem_singleton.1 hu];simp
  have hg:(f++g).length≤32000*i+15001*(j-i):=by
   rw [List.length_append]
   simp only [List.length_nil,Nat.zero_add]at a3
   omega
  simp only
  split
  ·have:=z9l (n:=tagN s i1) (i:=i) (j:=j+1) (out:=out ++ [(k,(tagN s i1,(([]:Bs),(l,sl&&k==2))))]) (f:=f++g) hs (by omega) (by omega) (by simp;omega) hd (by omega)
   exact⟨this.1,by omega⟩
  ·refine⟨⟨by show j+1≤s.length;omega,?_,?_,?_⟩,by show i<j+1;omega⟩
   ·show (out++_).length≤2*(j+1);simp;omega
   ·intro u hu;have:=hd u hu;show _≤70000*(j+1);omega
   ·show (f++g).length≤32000*(j+1);omega
theorem zx5 {s e:Bs} {k:Int} {b i:Nat} {out:List Tok} {f:List Fl} (hs:s.length≤15000) (hb:1<b) (hi:i+b≤s.length) (h0:i≤s.length) (h1:out.length≤2*i) (h2:∀u∈out,u.2.2.1.length≤70000*i) (h3:f.length≤32000*i+1):Inv s (zsc s k b e i out f)∧i<(zsc s k b e i out f).1:=by
 have hd:∀(x:Bs) (j:Nat),x.length≤15000→i<j→∀u∈out ++ [(k,(([]:Bs),((bif k==5 then zun x else x),(([]:List Att),false))))],u.2.2.1.length≤70000*j:=fun x j hx hj u hu=>by
  rcases List.mem_append.1 hu with hu | hu
  ·have:=h2 u hu;omega
  ·rw [List.mem_singleton.1 hu]
   have:=z17 x
   show (bif k==5 then zun x else x).length≤_
   cases (k==5)<;>simp only [cond_true,cond_false]<;>omega
 unfold zsc
 cases hf:zlm (s.drop (i+b)) e with
 | some m=>
  have:=(zfj _ _ _ hf).1
  rw [List.length_drop]at this
  dsimp only
  refine⟨⟨by show i+b+m+e.length≤s.length;omega,?_,?_,?_⟩,by show i<i+b+m+e.length;omega⟩
  ·show (out++_).length≤2*(i+b+m+e.length);simp;omega
  ·exact hd _ _ (by simp;omega) (by omega)
  ·show f.length≤32000*(i+b+m+e.length);omega
 | none=>
  dsimp only
  refine⟨⟨Nat.le_refl _,?_,?_,?_⟩,by show i<s.length;omega⟩
  ·show (out++_).length≤2*s.length;simp;omega
  ·exact hd _ _ (by simp;omega) (by omega)
  ·show (f++_).length≤32000*s.length;simp;omega
theorem z18 {s:Bs} {st:St} (hs:s.length≤15000) (hi:st.1<s.length) (h:Inv s st):Inv s (stepS s st)∧st.1<(stepS s st).1:=by
 obtain⟨i,out,f⟩:=st
 have hI:=h
 obtain⟨h0,h1,h2,h3⟩:=h
 simp only at h0 h1 h2 h3 hi
 unfold stepS
 simp only
 split
 ·unfold zzq
  split
  ·rename_i hl
   exact z5d hs (by omega) (by have:=zuq hl;omega) hI
  ·split
   ·rename_i hl
    exact z5d hs (by omega) (by have:=zuq (Bool.and_eq_true _ _▸hl:_∧_).2;omega) hI
   ·split
    ·rename_i hl
     exact zx5 hs (by decide) (by have:=zrn hl h0;simpa using this) h0 h1 h2 (by omega)
    ·split
     ·rename_i hl
      exact zx5 hs (by decide) (by have:=zrn hl h0;simpa using this) h0 h1 h2 (by omega)
     ·split
      ·rename_i h6
       have hlt:i+1<s.length:=by
        rcases Bool.or_eq_true _ _▸h6 with h | h
        ·exact zws (beq_iff_eq.1 h) (by decide)
        ·rcases Bool.or_eq_true _ _▸h with h | h
         ·exact zws (beq_iff_eq.1 h) (by decide)
         ·exact zws (beq_iff_eq.1 h) (by decide)
       exact zx5 hs (by decide) (by omega) h0 h1 h2 (by simp;omega)
      ·refine⟨⟨by show i+1≤s.length;omega,?_,?_,?_⟩,by show i<i+1;omega⟩
       ·have:=zx4 out (tx [60]);show (zln out (tx [60])).length≤2*(i+1);omega
       ·intro u hu
        have:u.2.2.1.length≤70000*i+1:=zur out (tx [60]) _ h2 u hu
        show _≤70000*(i+1);omega
       ·show (f++_).length≤32000*(i+1);simp;omega
 ·rename_i hc
  have hsp:=zfi zcr s i h0
  have hpos:0<ku zcr s i:=by
   unfold ku
   rw [List.drop_eq_getElem_cons hi,List.takeWhile_cons,if_pos,List.length_cons]
   ·omega
   ·have hcc:chr s i=s[i]:=by unfold chr;rw [List.getElem?_eq_getElem hi];rfl
    rw [hcc]at hc
    have e60:(((s[i].toNat:Nat):Int)==60)=(s[i]==60):=zup s[i] 60 (by decide)
    unfold zcr
    rw [bne,e60]
    simpa using hc
  have hx:((s.drop i).take (ku zcr s i)).length≤15000:=by simp;omega
  have d1:=zds ((s.drop i).take (ku zcr s i)) 0
  have d2:=zgh ((s.drop i).take (ku zcr s i)) (i:Nat)
  refine⟨⟨hsp,?_,?_,?_⟩,by show i<i+ku zcr s i;omega⟩
  ·have h5:(z67 s i out f).2.1.length≤out.length+1:=zx4 out (tx (dec ((s.drop i).take (ku zcr s i)) 0).1)
   have h6:(z67 s i out f).1=i+ku zcr s i:=rfl
   omega
  ·intro u hu
   have:=zur out (tx (dec ((s.drop i).take (ku zcr s i)) 0).1) _ h2 u hu
   have:u.2.2.1.length≤70000*i+(dec ((s.drop i).take (ku zcr s i)) 0).1.length:=this
   show _≤70000*(i+ku zcr s i);omega
  ·show (f++_).length≤32000*(i+ku zcr s i);rw [List.length_append];omega
theorem ya6 {s:Bs} {i:Nat} (h:i<s.length):chr s i=s[i]:=by unfold chr;rw [List.getElem?_eq_getElem h];rfl
def runT (s:Bs):St:=runS s s.length (0,[],[])
theorem inv0 (s:Bs):Inv s (0,[],[]):=⟨Nat.zero_le _,by simp,by simp,by simp⟩
theorem z5e (N:Nat) (s:Bs) (hs:s.length≤15000) (hN:16000<N):gw (Ev.upto N) ((s,()),())=some ((0,()),((runT s).2.1,((runT s).2.2,()))):=by
 apply zr9
 unfold gw
 rw [show decide ((s.length:Int)>20000)=false from decide_eq_false (by omega),cond_false]
 generalize hR:runT s=R
 refine zc6 ?_
 refine z0p (fun a=>∃(n:Nat) (st:St),a=((s,()),cur s st.1 st.2.1 st.2.2)∧Inv s st∧s.length-st.1≤n∧runS s n st=R) (fun a=>s.length-a.2.1.2.1.toNat) ⟨s.length,(0,[],[]),rfl,inv0 s,by omega,hR⟩ (by simp;omega) ?_
 rintro _ ⟨n,⟨i,out,f⟩,rfl,hI,hn,hT⟩
 have hOk:=hI.okO hs
 have hle:=hI.le
 have hlen:=hI.len
 have hfl:=hI.fl
 simp only at hOk hle hlen hfl hn
 by_cases hi:i<s.length
 ·have c0:decide ((i:Int)<(s.length:Int))=true:=decide_eq_true (by omega)
  obtain⟨n,rfl⟩:∃m,n=m+1:=⟨n-1,by omega⟩
  rw [runS,if_pos hi]at hT
  have hst:=z18 (st:=(i,out,f)) hs hi hI
  have e60:(((s[i].toNat:Nat):Int)==60)=(chr s i==60):=by rw [ya6 hi];exact zup s[i] 60 (by decide)
  simp -implicitDefEqProofs only [c0,cond_true,jv hi,Option.bind_some,e60]
  cases h60:(chr s i==60) with
  | true=>
   have hS:stepS s (i,out,f)=zzq s i out f:=by unfold stepS;rw [if_pos h60]
   have q1:=z9k N s i out f hi (by omega) hOk (by omega) (by omega) (by omega) (by omega)
   rw [←hS]at q1
   simp -implicitDefEqProofs only [cond_true,q1,Option.bind_some]
   exact⟨_,rfl,⟨n,stepS s (i,out,f),rfl,hst.1,by have:=hst.2;simp only at this;omega,hT⟩,by have:=hst.2;have:=hst.1.le;simp only at *;simp;omega⟩
  | false=>
   have hS:stepS s (i,out,f)=z67 s i out f:=by unfold stepS;rw [if_neg (by show ¬(chr s i==60)=true;rw [h60];decide)]
   have hsp:=zfi zcr s i hle
   have q1:=z40 N s i out f hle (by omega) (by omega)
   rw [zbi]at q1
   have ht:((s.drop i).take (ku zcr s i)).length=ku zcr s i:=by simp;omega
   rw [ht]at q1
   have q2:=zjl N ((s.drop i).take (ku zcr s i)) i s (i+ku zcr s i) out f (by omega) (by omega) (by omega) (by omega) (by omega)
   have d1:=zds ((s.drop i).take (ku zcr s i)) 0
   have q3:=zqy (Ev.upto N) (tx (dec ((s.drop i).take (ku zcr s i)) 0).1) s (i+ku zcr s i) out (f++(dec ((s.drop i).take (ku zcr s i)) (i:Nat)).2) hOk (by show (dec _ 0).1.length≤_;omega)
   simp -implicitDefEqProofs only [cond_false,q1,q2,q3,Option.bind_some]
   refine⟨_,rfl,⟨n,stepS s (i,out,f),by rw [hS];rfl,hst.1,by have:=hst.2;simp only at this;omega,hT⟩,?_⟩
   have h2:=hst.2
   rw [hS]at h2
   have:i<i+ku zcr s i:=h2
   simp;omega
 ·have c0:decide ((i:Int)<(s.length:Int))=false:=decide_eq_false (by omega)
  have:runS s n (i,out,f)=(i,out,f):=by
   cases n with
   | zero=>rfl
   | succ n=>rw [runS,if_neg hi]
  rw [this]at hT
  subst hT
  simp -implicitDefEqProofs only [c0,cond_false]
  exact⟨_,rfl,_,rfl,rfl⟩
theorem z5f {s:Bs} (hs:s.length≤15000):∀(n:Nat) (st:St),Inv s st→Inv s (runS s n st)
 | 0,st,h=>h
 | n+1,st,h=>by
  rw [runS]
  split
  ·rename_i hi
   exact z5f hs n _ (z18 (by omega) hi h).1
  ·exact h
def ct (c:UInt8):Bool:=decide (128≤c.toNat)&&decide (c.toNat≤191)
def u8lo (a:Nat):Nat:=if a=224 then 160 else if a=240 then 144 else 128
def u8hi (a:Nat):Nat:=if a=237 then 159 else if a=244 then 143 else 191
def u8sz (a:Nat):Nat:=if a<128 then 1 else if a<194 then 0 else if a<224 then 2 else if a<240 then 3 else if a<245 then 4 else 0
def ok1 (a b:UInt8):Bool:=decide (u8lo a.toNat≤b.toNat)&&decide (b.toNat≤u8hi a.toNat)
def vt (a:UInt8):Bs→Bool
 | []=>true
 | b::r=>ok1 a b&&r.all ct
def cpl:Bs→Nat
 | []=>0
 | a::s=>if u8sz a.toNat-1≤s.length∧vt a (s.take (u8sz a.toNat-1))=true then u8sz a.toNat else 0
theorem zad (a:UInt8) (s:Bs):cpl (a::s)=if u8sz a.toNat-1≤s.length∧vt a (s.take (u8sz a.toNat-1))=true then u8sz a.toNat else 0:=rfl
def inc:Bs→Bool
 | []=>false
 | a::s=>decide (s.length<u8sz a.toNat-1)&&vt a s
def cpw (s:Bs):Bs:=if cpl s=0 then [239,191,189] else s.take (cpl s)
def cpn (s:Bs):Nat:=if cpl s=0 then 1 else cpl s
def Uf:Nat→Bs→Bs
 | 0,_=>[]
 | _+1,[]=>[]
 | n+1,a::s=>cpw (a::s)++Uf n ((a::s).drop (cpn (a::s)))
def U (s:Bs):Bs:=Uf s.length s
theorem z0z (a:Nat):u8sz a≤4:=by unfold u8sz;(repeat' split)<;>omega
theorem z79:∀s:Bs,cpl s≤s.length
 | []=>Nat.le_refl _
 | a::s=>by
  rw [zad]
  split
  ·rename_i h;simp;omega
  ·omega
theorem zus (s:Bs):1≤cpn s:=by unfold cpn;split<;>omega
theorem z5g {s:Bs} (h:s ≠ []):cpn s≤s.length:=by
 have h1:=z79 s
 have h2:0<s.length:=List.length_pos_iff.2 h
 unfold cpn
 split<;>omega
theorem z9m (s:Bs):(cpw s).length≤3*cpn s:=by
 unfold cpw cpn
 split
 ·simp
 ·simp;omega
theorem z5h:∀(n:Nat) (s:Bs),s.length≤n→∀m,s.length≤m→Uf n s=Uf m s
 | 0,s,h,m,h'=>by
  obtain rfl:s = []:=List.length_eq_zero_iff.1 (by omega)
  cases m<;>rfl
 | n+1,[],h,m,h'=>by cases m<;>rfl
 | n+1,a::s,h,m,h'=>by
  obtain⟨m,rfl⟩:∃k,m=k+1:=⟨m-1,by simp at h';omega⟩
  unfold Uf
  have:=zus (a::s)
  rw [z5h n _ (by simp at *;omega) m (by simp at *;omega)]
theorem z9n:U [] = []:=rfl
theorem z19 {s:Bs} (h:s ≠ []):U s=cpw s++U (s.drop (cpn s)):=by
 cases s with
 | nil=>exact absurd rfl h
 | cons a s=>
  have:=zus (a::s)
  show Uf (s.length+1) (a::s)=_
  unfold Uf U
  rw [z5h s.length _ (by simp;omega) _ (Nat.le_refl _)]
theorem z5i:∀(n:Nat) (s:Bs),s.length≤n→(U s).length≤3*s.length
 | 0,s,h=>by
  obtain rfl:s = []:=List.length_eq_zero_iff.1 (by omega)
  simp [z9n]
 | n+1,s,h=>by
  by_cases hs:s = []
  ·subst hs;simp [z9n]
  ·have h1:=zus s
   have h2:=z5g hs
   have h3:=z9m s
   have h4:=z5i n (s.drop (cpn s)) (by simp;omega)
   rw [z19 hs]
   simp at *
   omega
theorem ya7 {a b:UInt8} (h:ok1 a b=true):ct b=true:=by
 simp only [ok1,ct,Bool.and_eq_true,decide_eq_true_eq]at *
 have h1:128≤u8lo a.toNat:=by unfold u8lo;(repeat' split)<;>omega
 have h2:u8hi a.toNat≤191:=by unfold u8hi;(repeat' split)<;>omega
 omega
theorem z8a {a:UInt8}:∀{s:Bs},vt a s=true→∀c∈s,ct c=true
 | [],_,c,hc=>by cases hc
 | b::r,h,c,hc=>by
  simp only [vt,Bool.and_eq_true,List.all_eq_true]at h
  rcases List.mem_cons.1 hc with rfl | hc
  ·exact ya7 h.1
  ·exact h.2 c hc
theorem ya8 {a:UInt8}:∀{s z:Bs},vt a (s++z)=true→vt a s=true
 | [],_,_=>rfl
 | b::r,z,h=>by
  simp only [vt,List.cons_append,Bool.and_eq_true,List.all_eq_true,List.mem_append]at *
  exact⟨h.1,fun c hc=>h.2 c (.inl hc)⟩
theorem zx6 {x y:Bs} (hx:x ≠ []) (h:inc x=false):cpl (x++y)=cpl x:=by
 cases x with
 | nil=>exact absurd rfl hx
 | cons a s=>
  rw [List.cons_append,zad,zad]
  by_cases hl:u8sz a.toNat-1≤s.length
  ·rw [List.take_append_of_le_length hl]
   have hl2:u8sz a.toNat-1≤(s++y).length:=by simp;omega
   simp only [hl,hl2,true_and]
  ·have hv:¬vt a s=true:=by
    intro hv
    simp [inc,hv]at h
    omega
   rw [if_neg (show ¬(u8sz a.toNat-1≤s.length∧vt a (s.take (u8sz a.toNat-1))=true) from fun h=>hl h.1),if_neg]
   rintro⟨h1,h2⟩
   rw [List.take_append]at h2
   have:=ya8 h2
   rw [List.take_of_length_le (by omega)]at this
   exact hv this
theorem z5j {x y:Bs} {c:UInt8} (hx:x ≠ []) (h:ct c=false):cpl (x++c::y)=cpl x:=by
 cases hi:inc x with
 | false=>exact zx6 hx hi
 | true=>
  cases x with
  | nil=>exact absurd rfl hx
  | cons a s=>
   simp only [inc,Bool.and_eq_true,decide_eq_true_eq]at hi
   rw [List.cons_append,zad,zad]
   rw [if_neg (show ¬(u8sz a.toNat-1≤s.length∧_) from fun h=>by omega),if_neg]
   rintro⟨h1,h2⟩
   have:=z8a h2 c (by
    rw [List.take_append,List.mem_append]
    refine .inr ?_
    obtain⟨k,hk⟩:∃k,u8sz a.toNat-1-s.length=k+1:=⟨u8sz a.toNat-1-s.length-1,by omega⟩
    rw [hk]
    simp)
   rw [h]at this
   cases this
theorem zut:∀(n:Nat) (x y:Bs),x.length≤n→(∀k,k<x.length→cpl (x.drop k++y)=cpl (x.drop k))→U (x++y)=U x++U y
 | 0,x,y,h,_=>by
  obtain rfl:x = []:=List.length_eq_zero_iff.1 (by omega)
  rfl
 | n+1,x,y,h,hk=>by
  by_cases hx:x = []
  ·subst hx;rfl
  ·have h0:cpl (x++y)=cpl x:=by have:=hk 0 (List.length_pos_iff.2 hx);simpa using this
   have h1:cpw (x++y)=cpw x:=by
    unfold cpw
    rw [h0,List.take_append_of_le_length (z79 x)]
   have h2:cpn (x++y)=cpn x:=by unfold cpn;rw [h0]
   have h3:=z5g hx
   have h4:=zus x
   rw [z19 (by simp [hx]),z19 hx,h1,h2,List.drop_append_of_le_length h3,List.append_assoc]
   congr 1
   refine zut n _ _ (by simp;omega) fun k hk'=> ?_
   rw [List.drop_drop]
   exact hk _ (by simp at hk';omega)
def zpl:Nat→Nat→Bs→Nat
 | 0,_,_=>0
 | n+1,k,s=>if k≤s.length then (match s[s.length-k]? with
  | some c=>if ct c then zpl n (k+1) s else (if inc (s.drop (s.length-k)) then k else 0)
  | none=>0) else 0
def keep (s:Bs):Nat:=zpl 3 1 s
theorem z5k {x:Bs} (h:inc x=true):∀c,x.head? = some c→ct c=false:=by
 cases x with
 | nil=>cases h
 | cons a s=>
  rintro c ⟨⟩
  simp only [inc,Bool.and_eq_true,decide_eq_true_eq]at h
  have h1:=h.1
  unfold u8sz at h1
  simp only [ct,Bool.and_eq_false_iff,decide_eq_false_iff_not]
  (repeat' split at h1)<;>omega
theorem z68 {x:Bs} (h:inc x=true) {k:Nat} {c:UInt8} (hk:x[k+1]? = some c):ct c=true:=by
 cases x with
 | nil=>cases h
 | cons a s=>
  simp only [inc,Bool.and_eq_true,decide_eq_true_eq]at h
  exact z8a h.2 c (List.mem_of_getElem? (by simpa using hk))
theorem z5l {x:Bs} (h:inc x=true):x.length≤3:=by
 cases x with
 | nil=>cases h
 | cons a s=>
  simp only [inc,Bool.and_eq_true,decide_eq_true_eq]at h
  have:=z0z a.toNat
  simp;omega
theorem zwt (s y:Bs):∀(n k:Nat),n+k=4→1≤k→(∀j,1≤j→j<k→j≤s.length→∀c,s[s.length-j]? = some c→ct c=true) →
  zpl n k s≤3∧zpl n k s≤s.length∧U (s++y)=U (s.take (s.length-zpl n k s))++U (s.drop (s.length-zpl n k s)++y)
 | 0,k,hk,h1,h=>by
  refine⟨by simp [zpl],by simp [zpl],?_⟩
  simp only [zpl,Nat.sub_zero,List.take_length,List.drop_length,List.nil_append]
  refine zut s.length s y (Nat.le_refl _) fun i hi=>zx6 (by intro e;simp at e;omega) ?_
  cases hc:inc (s.drop i) with
  | false=>rfl
  | true=>
   have hl:=z5l hc
   have:=z5k hc s[i] (by rw [List.head?_drop,List.getElem?_eq_getElem hi])
   rw [h (s.length-i) (by omega) (by simp at hl;omega) (by omega) s[i] (by rw [show s.length-(s.length-i)=i by omega,List.getElem?_eq_getElem hi])]at this
   cases this
 | n+1,k,hk,h1,h=>by
  unfold zpl
  by_cases hl:k≤s.length
  ·have hlt:s.length-k<s.length:=by omega
   rw [if_pos hl,List.getElem?_eq_getElem hlt]
   dsimp only
   cases hct:ct s[s.length-k] with
   | true=>
    rw [if_pos rfl]
    refine zwt s y n (k+1) (by omega) (by omega) fun j h2 h3 h4 c hc=> ?_
    by_cases e:j=k
    ·subst e
     rw [List.getElem?_eq_getElem hlt]at hc
     cases hc
     exact hct
    ·exact h j h2 (by omega) h4 c hc
   | false=>
    rw [if_neg (by decide)]
    cases hinc:inc (s.drop (s.length-k)) with
    | true=>
     rw [if_pos rfl]
     refine⟨by omega,hl,?_⟩
     have hd:s.drop (s.length-k)=s[s.length-k]::s.drop (s.length-k+1):=List.drop_eq_getElem_cons hlt
     have e:s++y=s.take (s.length-k)++(s.drop (s.length-k)++y):=by rw [←List.append_assoc,List.take_append_drop]
     rw [e]
     refine zut s.length _ _ (by simp) fun i hi=> ?_
     rw [hd]
     exact z5j (by intro e;simp at e hi;omega) hct
    | false=>
     rw [if_neg (by decide)]
     refine⟨by omega,by omega,?_⟩
     simp only [Nat.sub_zero,List.take_length,List.drop_length,List.nil_append]
     refine zut s.length s y (Nat.le_refl _) fun i hi=>zx6 (by intro e;simp at e;omega) ?_
     cases hc:inc (s.drop i) with
     | false=>rfl
     | true=>
      have hl2:=z5l hc
      by_cases e1:i=s.length-k
      ·subst e1;rw [hinc]at hc;cases hc
      ·by_cases e2:i<s.length-k
       ·have:=z68 hc (k:=s.length-k-i-1) (c:=s[s.length-k]) (by rw [List.getElem?_drop,show i+(s.length-k-i-1+1)=s.length-k by omega,List.getElem?_eq_getElem hlt])
        rw [hct]at this;cases this
       ·have:=z5k hc s[i] (by rw [List.head?_drop,List.getElem?_eq_getElem hi])
        rw [h (s.length-i) (by omega) (by omega) (by omega) s[i] (by rw [show s.length-(s.length-i)=i by omega,List.getElem?_eq_getElem hi])]at this
        cases this
  ·rw [if_neg hl]
   refine⟨by omega,by omega,?_⟩
   simp only [Nat.sub_zero,List.take_length,List.drop_length,List.nil_append]
   refine zut s.length s y (Nat.le_refl _) fun i hi=>zx6 (by intro e;simp at e;omega) ?_
   cases hc:inc (s.drop i) with
   | false=>rfl
   | true=>
    have:=z5k hc s[i] (by rw [List.head?_drop,List.getElem?_eq_getElem hi])
    rw [h (s.length-i) (by omega) (by omega) (by omega) s[i] (by rw [show s.length-(s.length-i)=i by omega,List.getElem?_eq_getElem hi])]at this
    cases this
theorem zzr (s y:Bs):keep s≤3∧keep s≤s.length∧U (s++y)=U (s.take (s.length-keep s))++U (s.drop (s.length-keep s)++y):=
 zwt s y 3 1 rfl (Nat.le_refl _) fun j h1 h2=>by omega
def f1 (n:Nat):Nat:=if n<128 then 240 else if n<194 then 241 else if n<224 then 2 else if n=224 then 19 else if n<237 then 3 else if n=237 then 35 else if n<240 then 3 else if n=240 then 52 else if n<244 then 4 else if n=244 then 68 else 241
theorem z69:(List.range 256).all (fun n=>decide (idx z6r (n:Int)=some ((f1 n:Nat):Int)))=true:=by kernel_rfl
theorem tab1 (a:UInt8):idx z6r ((a.toNat:Nat):Int)=some ((f1 a.toNat:Nat):Int):=
 of_decide_eq_true (List.all_eq_true.1 z69 a.toNat (List.mem_range.2 a.toNat_lt))
def msk (x:Int):Int:=Int.fdiv (IntKind.wrap .i32 ((IntKind.wrap .i32 x)*2^(min (Int.toNat (31:Int)) 32))) (2^(min (Int.toNat (31:Int)) 32))
def szx (x:Int):Int:=IntKind.wrap .i64 (IntKind.wrap .u8 ((BitVec.toNat (BitVec.ofInt 8 x &&& BitVec.ofInt 8 (7:Int)):Nat):Int))
def hix (x:Int):Int:=Int.fdiv x (2^(min (Int.toNat (4:Int)) 8))
def rx (v3 m:Int):Int:=IntKind.wrap .i32 ((BitVec.toNat (BitVec.ofInt 32 (IntKind.wrap .i32 ((BitVec.toNat (BitVec.ofInt 32 (IntKind.wrap .i32 v3) &&& ~~~(BitVec.ofInt 32 m)):Nat):Int)) ||| BitVec.ofInt 32 (IntKind.wrap .i32 ((BitVec.toNat (BitVec.ofInt 32 (65533:Int) &&& BitVec.ofInt 32 m):Nat):Int))):Nat):Int)
theorem ya9:(List.range 256).all (fun n=>decide (rx (n:Int) (msk 241)=65533))=true:=by kernel_rfl
theorem yba (a:UInt8):rx ((a.toNat:Nat):Int) (msk 241)=65533:=
 of_decide_eq_true (List.all_eq_true.1 ya9 a.toNat (List.mem_range.2 a.toNat_lt))
theorem zbj (a:UInt8) (s:Bs):ofBs (a::s)=((a.toNat:Nat):Int)::ofBs s:=rfl
theorem z9o (x:Int) (l:List Int):idx (x::l) 0=some x:=rfl
theorem ybb (x y:Int) (l:List Int):idx (x::y::l) 1=some y:=rfl
theorem ybc (x y z:Int) (l:List Int):idx (x::y::z::l) 2=some z:=rfl
theorem yco (x y z u:Int) (l:List Int):idx (x::y::z::u::l) 3=some u:=rfl
theorem zuu (a:UInt8):(u8sz a.toNat≤1∧(u8sz a.toNat=1→f1 a.toNat=240)∧(u8sz a.toNat=0→f1 a.toNat=241)) ∨
  (2≤u8sz a.toNat∧decide (((f1 a.toNat:Nat):Int)≥240)=false∧(decide ((0:Int)≤(4:Int))&&rngB .u8 (hix ((f1 a.toNat:Nat):Int)))=true ∧
   idx z6s (hix ((f1 a.toNat:Nat):Int))=some (((u8lo a.toNat:Nat):Int),((u8hi a.toNat:Nat):Int))∧szx ((f1 a.toNat:Nat):Int)=((u8sz a.toNat:Nat):Int)):=by
 have h:(List.range 256).all (fun n=>decide ((u8sz n≤1∧(u8sz n=1→f1 n=240)∧(u8sz n=0→f1 n=241)) ∨
  (2≤u8sz n∧decide (((f1 n:Nat):Int)≥240)=false∧(decide ((0:Int)≤(4:Int))&&rngB .u8 (hix ((f1 n:Nat):Int)))=true ∧
   idx z6s (hix ((f1 n:Nat):Int))=some (((u8lo n:Nat):Int),((u8hi n:Nat):Int))∧szx ((f1 n:Nat):Int)=((u8sz n:Nat):Int))))=true:=by kernel_rfl
 exact of_decide_eq_true (List.all_eq_true.1 h a.toNat (List.mem_range.2 a.toNat_lt))
theorem z5m (a b:UInt8):ok1 a b=(!decide (((b.toNat:Nat):Int)<((u8lo a.toNat:Nat):Int)) && !decide (((u8hi a.toNat:Nat):Int)<((b.toNat:Nat):Int))):=by
 unfold ok1
 rw [Bool.eq_iff_iff]
 simp only [Bool.and_eq_true,decide_eq_true_eq,Bool.not_eq_true',decide_eq_false_iff_not]
 omega
theorem z5n (b:UInt8):ct b=(!decide (((b.toNat:Nat):Int)<128) && !decide ((191:Int)<((b.toNat:Nat):Int))):=by
 unfold ct
 rw [Bool.eq_iff_iff]
 simp only [Bool.and_eq_true,decide_eq_true_eq,Bool.not_eq_true',decide_eq_false_iff_not]
 omega
theorem z5o {α:Type} (c d:Bool) (F:Bool→α):(bif (c==false) then F d else F true)=F (!(!c && !d)):=by cases c<;>cases d<;>rfl
theorem cpl2 (a b:UInt8) (s:Bs) (h:u8sz a.toNat=2):cpl (a::b::s)=if ok1 a b=true then 2 else 0:=by
 rw [zad,h]
 simp [vt]
theorem cpl3 (a b c:UInt8) (s:Bs) (h:u8sz a.toNat=3):cpl (a::b::c::s)=if ok1 a b=true∧ct c=true then 3 else 0:=by
 rw [zad,h]
 simp [vt]
theorem cpl4 (a b c d:UInt8) (s:Bs) (h:u8sz a.toNat=4):cpl (a::b::c::d::s)=if ok1 a b=true∧ct c=true∧ct d=true then 4 else 0:=by
 rw [zad,h]
 simp [vt]
theorem z5p (a:UInt8) (s:Bs) (h:s.length+1<u8sz a.toNat):cpl (a::s)=0:=by
 rw [zad,if_neg]
 rintro⟨h1,_⟩
 omega
theorem z7a (a b:UInt8) (s:Bs) (h0:2≤u8sz a.toNat) (h:ok1 a b=false):cpl (a::b::s)=0:=by
 rw [zad,if_neg]
 rintro⟨_,h2⟩
 obtain⟨k,hk⟩:∃k,u8sz a.toNat-1=k+1:=⟨u8sz a.toNat-2,by omega⟩
 rw [hk]at h2
 simp [vt,h]at h2
theorem z7b (a b c:UInt8) (s:Bs) (h0:3≤u8sz a.toNat) (h:ct c=false):cpl (a::b::c::s)=0:=by
 rw [zad,if_neg]
 rintro⟨_,h2⟩
 obtain⟨k,hk⟩:∃k,u8sz a.toNat-1=k+1+1:=⟨u8sz a.toNat-3,by omega⟩
 rw [hk]at h2
 simp [vt,h]at h2
theorem z9p (V:Ev) (a:UInt8) (s:Bs) (h128:128≤a.toNat):∃r:Int,wl V ((ofBs (a::s),()),())=some ((r,((((cpn (a::s)):Nat):Int),())),())∧(cpl (a::s)=0→r=65533)∧cpl (a::s)≠1:=by
 have hsz1:u8sz a.toNat≠1:=by unfold u8sz;(repeat' split)<;>omega
 have hne1:cpl (a::s)≠1:=by
  rw [zad]
  split
  ·exact hsz1
  ·omega
 unfold wl
 have t1:=tab1 a
 rw [zbj]
 dsimp only
 have l0':decide (((((a.toNat:Nat):Int)::ofBs s).length:Int)<(1:Int))=false:=decide_eq_false (by simp only [List.length_cons];omega)
 rw [l0',cond_false,z9o,Option.bind_some,t1,Option.bind_some]
 rcases zuu a with ⟨h1,h2,h3⟩ | ⟨h1,h2,h3,h4,h5⟩
 ·have h0:u8sz a.toNat=0:=by omega
  have hc:cpl (a::s)=0:=by rw [zad,h0];split<;>rfl
  rw [h3 h0]
  have g1:decide (((241:Nat):Int)≥(240:Int))=true:=rfl
  have g2:(decide ((0:Int)≤(31:Int))&&rngB .i32 (Int.fdiv (IntKind.wrap .i32 ((IntKind.wrap .i32 ((241:Nat):Int))*2^(min (Int.toNat (31:Int)) 32))) (2^(min (Int.toNat (31:Int)) 32))))=true:=by kernel_rfl
  have hr:=yba a
  rw [g1,cond_true,g2,cond_true]
  rw [show cpn (a::s)=1 by unfold cpn;rw [if_pos hc]]
  exact⟨_,rfl,fun _=>hr,hne1⟩
 ·rw [h2,cond_false]
  unfold hix at h3 h4
  unfold szx at h5
  rw [h3,cond_true,h4,Option.bind_some,h5]
  have hlen:((((a.toNat:Nat):Int)::ofBs s).length:Int)=((s.length+1:Nat):Int):=by simp [zn]
  rw [hlen]
  by_cases hs:s.length+1<u8sz a.toNat
  ·rw [show decide (((s.length+1:Nat):Int)<((u8sz a.toNat:Nat):Int))=true from decide_eq_true (by omega),cond_true]
   have hc:=z5p a s hs
   rw [show cpn (a::s)=1 by unfold cpn;rw [if_pos hc]]
   exact⟨_,rfl,fun _=>rfl,hne1⟩
  ·rw [show decide (((s.length+1:Nat):Int)<((u8sz a.toNat:Nat):Int))=false from decide_eq_false (by omega),cond_false]
   obtain⟨b,s,rfl⟩:∃b s',s=b::s':=by
    cases s with
    | nil=>simp at hs;omega
    | cons b s=>exact⟨b,s,rfl⟩
   have hu:=z0z a.toNat
   rw [zbj,ybb,Option.bind_some]
   dsimp only
   rw [z5o (decide (((b.toNat:Nat):Int)<((u8lo a.toNat:Nat):Int))) (decide (((u8hi a.toNat:Nat):Int)<((b.toNat:Nat):Int))) (fun z=>some ((((a.toNat:Nat):Int)::((b.toNat:Nat):Int)::ofBs s,(((a.toNat:Nat):Int),(((u8sz a.toNat:Nat):Int),(((b.toNat:Nat):Int),(z,()))))),())),←z5m,Option.bind_some]
   dsimp only
   cases ho:ok1 a b with
   | false=>
    rw [Bool.not_false,cond_true]
    have hc:=z7a a b s h1 ho
    rw [show cpn (a::b::s)=1 by unfold cpn;rw [if_pos hc]]
    exact⟨_,rfl,fun _=>rfl,hne1⟩
   | true=>
    rw [Bool.not_true,cond_false]
    by_cases hk2:u8sz a.toNat=2
    ·rw [show decide (((u8sz a.toNat:Nat):Int)≤2)=true from decide_eq_true (by omega),cond_true]
     have hc:=cpl2 a b s hk2
     rw [if_pos ho]at hc
     rw [show cpn (a::b::s)=2 by unfold cpn;rw [hc];rfl]
     exact⟨_,rfl,fun h=>(by rw [hc]at h;cases h),hne1⟩
    ·rw [show decide (((u8sz a.toNat:Nat):Int)≤2)=false from decide_eq_false (by omega),cond_false]
     obtain⟨c,s,rfl⟩:∃c s',s=c::s':=by
      cases s with
      | nil=>simp at hs;omega
      | cons b s=>exact⟨b,s,rfl⟩
     rw [zbj,ybc,Option.bind_some]
     rw [z5o (decide (((c.toNat:Nat):Int)<128)) (decide ((191:Int)<((c.toNat:Nat):Int))) (fun z=>some ((((a.toNat:Nat):Int)::((b.toNat:Nat):Int)::((c.toNat:Nat):Int)::ofBs s,(((a.toNat:Nat):Int),(((u8sz a.toNat:Nat):Int),(((b.toNat:Nat):Int),(((c.toNat:Nat):Int),(z,())))))),())),←z5n,Option.bind_some]
     dsimp only
     cases ho2:ct c with
     | false=>
      rw [Bool.not_false,cond_true]
      have hc:=z7b a b c s (by omega) ho2
      rw [show cpn (a::b::c::s)=1 by unfold cpn;rw [if_pos hc]]
      exact⟨_,rfl,fun _=>rfl,hne1⟩
     | true=>
      rw [Bool.not_true,cond_false]
      by_cases hk3:u8sz a.toNat=3
      ·rw [show decide (((u8sz a.toNat:Nat):Int)≤3)=true from decide_eq_true (by omega),cond_true]
       have hc:=cpl3 a b c s hk3
       rw [if_pos ⟨ho,ho2⟩]at hc
       rw [show cpn (a::b::c::s)=3 by unfold cpn;rw [hc];rfl]
       exact⟨_,rfl,fun h=>(by rw [hc]at h;cases h),hne1⟩
      ·rw [show decide (((u8sz a.toNat:Nat):Int)≤3)=false from decide_eq_false (by omega),cond_false]
       have hk4:u8sz a.toNat=4:=by omega
       obtain⟨d,s,rfl⟩:∃d s',s=d::s':=by
        cases s with
        | nil=>simp at hs;omega
        | cons b s=>exact⟨b,s,rfl⟩
       rw [zbj,yco,Option.bind_some]
       rw [z5o (decide (((d.toNat:Nat):Int)<128)) (decide ((191:Int)<((d.toNat:Nat):Int))) (fun z=>some ((((a.toNat:Nat):Int),(((b.toNat:Nat):Int),(((c.toNat:Nat):Int),(((d.toNat:Nat):Int),(z,()))))),())),←z5n,Option.bind_some]
       have hc:=cpl4 a b c d s hk4
       cases ho3:ct d with
       | false=>
        rw [Bool.not_false,cond_true]
        rw [if_neg (by rw [ho3];simp)]at hc
        rw [show cpn (a::b::c::d::s)=1 by unfold cpn;rw [if_pos hc]]
        exact⟨_,rfl,fun _=>rfl,hne1⟩
       | true=>
        rw [Bool.not_true,cond_false]
        rw [if_pos ⟨ho,ho2,ho3⟩]at hc
        rw [show cpn (a::b::c::d::s)=4 by unfold cpn;rw [hc];rfl]
        exact⟨_,rfl,fun h=>(by rw [hc]at h;cases h),hne1⟩
theorem zx7 (N:Nat) (hN:1<N) (s:Bs) (hs:s ≠ []):∃r:Int,bh (Ev.upto N) ((ofBs s,()),())=some ((r,((((cpn s):Nat):Int),())),())∧((r==65533)=true→((((cpn s):Nat):Int)==1)=true→cpl s=0)∧(cpl s=0→r=65533):=by
 cases s with
 | nil=>exact absurd rfl hs
 | cons a s=>
  have l0:decide ((0:Int)<((ofBs (a::s)).length:Int))=true:=decide_eq_true (by rw [zn,List.length_cons];omega)
  obtain⟨n,rfl⟩:∃n,N=n+1:=⟨N-1,by omega⟩
  unfold bh
  simp -implicitDefEqProofs only [z4w,bp,l0,cond_true]
  rw [zbj,z9o]
  simp -implicitDefEqProofs only [Option.bind_some]
  by_cases ha:a.toNat<128
  ·have d0:decide (((a.toNat:Nat):Int)<128)=true:=decide_eq_true (by omega)
   have hc:cpl (a::s)=1:=by
    have:u8sz a.toNat=1:=by unfold u8sz;rw [if_pos ha]
    rw [zad,this]
    simp [vt]
   simp -implicitDefEqProofs only [d0,cond_true,Option.bind_some,z75 (n:=((a.toNat:Nat):Int)) (by omega) (by omega)]
   rw [show cpn (a::s)=1 by unfold cpn;rw [hc];rfl]
   refine⟨_,rfl,fun h=> ?_,fun h=>by rw [hc]at h;cases h⟩
   simp at h
   omega
  ·have d0:decide (((a.toNat:Nat):Int)<128)=false:=decide_eq_false (by omega)
   obtain⟨r,e,h1,h2⟩:=z9p (Ev.upto (n+1)) a s (by omega)
   rw [zbj]at e
   simp -implicitDefEqProofs only [d0,cond_false,Option.bind_some,e]
   refine⟨_,rfl,fun _ h=> ?_,h1⟩
   unfold cpn at h
   split at h
   ·assumption
   ·simp at h;omega
theorem z00 (V:Ev) (s:Bs) (hs:s ≠ []):zbc V ((ofBs s,()),())=some ((!inc s,()),()):=by
 cases s with
 | nil=>exact absurd rfl hs
 | cons a s=>
  unfold zbc
  have t1:=tab1 a
  rw [zbj]
  dsimp only
  have hlen:((((a.toNat:Nat):Int)::ofBs s).length:Int)=((s.length+1:Nat):Int):=by simp [zn]
  rw [hlen]
  have l0:(((s.length+1:Nat):Int)==0)=false:=by simp;omega
  rw [l0,cond_false,z9o,Option.bind_some,t1,Option.bind_some]
  rcases zuu a with ⟨h1,h2,h3⟩ | ⟨h1,h2,h3,h4,h5⟩
  ·have hi:inc (a::s)=false:=by
    simp only [inc,show u8sz a.toNat-1=0 by omega]
    simp
   rw [hi]
   by_cases h0:u8sz a.toNat=0
   ·rw [h3 h0]
    have g:(IntKind.wrap .i64 (IntKind.wrap .u8 ((BitVec.toNat (BitVec.ofInt 8 ((241:Nat):Int) &&& BitVec.ofInt 8 (7:Int)):Nat):Int)))=1:=by kernel_rfl
    rw [g,show decide (((s.length+1:Nat):Int)≥1)=true from decide_eq_true (by omega)]
    rfl
   ·rw [h2 (by omega)]
    have g:(IntKind.wrap .i64 (IntKind.wrap .u8 ((BitVec.toNat (BitVec.ofInt 8 ((240:Nat):Int) &&& BitVec.ofInt 8 (7:Int)):Nat):Int)))=0:=by kernel_rfl
    rw [g,show decide (((s.length+1:Nat):Int)≥0)=true from decide_eq_true (by omega)]
    rfl
  ·unfold hix at h3 h4
   unfold szx at h5
   have hu:=z0z a.toNat
   rw [h5]
   by_cases hl:u8sz a.toNat≤s.length+1
   ·rw [show decide (((s.length+1:Nat):Int)≥((u8sz a.toNat:Nat):Int))=true from decide_eq_true (by omega)]
    have hi:inc (a::s)=false:=by
     simp only [inc,Bool.and_eq_false_iff,decide_eq_false_iff_not]
     left;omega
    rw [hi]
    rfl
   ·rw [show decide (((s.length+1:Nat):Int)≥((u8sz a.toNat:Nat):Int))=false from decide_eq_false (by omega),cond_false,h3,cond_true,h4,Option.bind_some]
    dsimp only
    have hi:inc (a::s)=vt a s:=by
     simp only [inc,show s.length<u8sz a.toNat-1 by omega,decide_true,Bool.true_and]
    rw [hi]
    cases s with
    | nil=>rfl
    | cons b s=>
     rw [show decide (((((b::s).length+1:Nat)):Int)>1)=true from decide_eq_true (by simp only [List.length_cons];omega),zbj]
     simp only [ybb,Option.bind_some,beq_self_eq_true,cond_true]
     rw [z5o (decide (((b.toNat:Nat):Int)<((u8lo a.toNat:Nat):Int))) (decide (((u8hi a.toNat:Nat):Int)<((b.toNat:Nat):Int))) (fun z=>some ((((a.toNat:Nat):Int)::((b.toNat:Nat):Int)::ofBs s,((((b::s).length+1:Nat):Int),(z,()))),())),←z5m,Option.bind_some]
     dsimp only
     cases ho:ok1 a b with
     | false=>simp [vt,ho]
     | true=>
      rw [Bool.not_true,cond_false]
      cases s with
      | nil=>simp [vt,ho]
      | cons c s=>
       rw [show decide (((((b::c::s).length+1:Nat)):Int)>2)=true from decide_eq_true (by simp;omega),zbj]
       simp only [ybc,Option.bind_some,beq_self_eq_true,cond_true]
       rw [z5o (decide (((c.toNat:Nat):Int)<128)) (decide ((191:Int)<((c.toNat:Nat):Int))) (fun z=>some ((z,()),())),←z5n,Option.bind_some]
       have hs0:s = []:=by
        cases s with
        | nil=>rfl
        | cons d s=>simp at hl;omega
       subst hs0
       cases hc:ct c with
       | false=>simp [vt,ho,hc]
       | true=>simp [vt,ho,hc]
theorem ybd:(List.range 256).all (fun n=>decide (((IntKind.wrap .u8 ((BitVec.toNat (BitVec.ofInt 8 (n:Int) &&& BitVec.ofInt 8 (192:Int)):Nat):Int)) != (128:Int)) = !(decide (128≤n)&&decide (n≤191))))=true:=by kernel_rfl
theorem zzs (V:Ev) (a:UInt8):zao V ((((a.toNat:Nat):Int),()),())=some ((!ct a,()),()):=by
 unfold zao
 dsimp only
 rw [of_decide_eq_true (List.all_eq_true.1 ybd a.toNat (List.mem_range.2 a.toNat_lt))]
 rfl
theorem ybe (V:Ev) (x:Bs) (w:Bs) (h:w.length+x.length≤100000000):za V ((x,()),((),(ofBs w,())))=some ((((x.length:Int),(false,()))),((),((ofBs (w++x),())))):=by
 unfold za zc
 simp -implicitDefEqProofs only [Option.bind_some,zn,zc7 (n:=w.length+x.length) (k:=1) (by omega),cond_true,kg]
theorem ycp (V:Ev) (x:Bs) (w:Bs) (h:w.length+x.length≤100000000):xt V ((ofBs x,()),((),(ofBs w,())))=some ((((x.length:Int),(false,()))),((),((ofBs (w++x),())))):=by
 unfold xt zc
 simp -implicitDefEqProofs only [Option.bind_some,zn,zc7 (n:=w.length+x.length) (k:=1) (by omega),cond_true,kg]
theorem zgi (s:Bs) (n:Nat):(ofBs s).drop n=ofBs (s.drop n):=by simp [ofBs]
theorem zjm (s:Bs) (n:Nat):(ofBs s).take n=ofBs (s.take n):=by simp [ofBs]
theorem zwu (N:Nat) (s:Bs) (hs:s.length≤1000000) (hN:s.length+1<N):zbv (Ev.upto N) ((ofBs s,()),())=some ((U s,()),()):=by
 apply zr9
 unfold zbv
 generalize hR:U s=R
 have hRl:R.length≤3000000:=by rw [←hR];have:=z5i s.length s (Nat.le_refl _);omega
 refine zew (fun x=>x=((),((),(ofBs R,())))) ?_ ?_
 ·refine z0p (fun a=>∃(r w:Bs),a=((ofBs r,()),((),(ofBs w,())))∧w++U r=R∧r.length≤s.length) (fun a=>a.1.1.length) ⟨s,[],rfl,by simpa using hR,Nat.le_refl _⟩ (by simp [zn];omega) ?_
  rintro _ ⟨r,w,rfl,hw,hl⟩
  have hwl:w.length≤R.length:=by rw [←hw];simp
  simp only [zn]
  by_cases hr:r = []
  ·subst hr
   have d0:decide (((([]:Bs).length:Nat):Int)>0)=false:=rfl
   rw [d0,cond_false]
   rw [z9n,List.append_nil]at hw
   subst hw
   exact⟨_,rfl,rfl⟩
  ·have h0:0<r.length:=List.length_pos_iff.2 hr
   have d0:decide (((r.length:Nat):Int)>0)=true:=decide_eq_true (by omega)
   obtain⟨q,e,h1,h2⟩:=zx7 N (by omega) r hr
   have c1:=zus r
   have c2:=z5g hr
   rw [z19 hr]at hw
   simp -implicitDefEqProofs only [d0,cond_true,e,Option.bind_some]
   have fin:∀b:Bool,(b=true↔cpl r=0)→wp (α:=(List Int×Unit)×(Unit×(List Int×Unit))) (bif b then ((za (Ev.upto N) ((([239,191,189]:Bs),()),((),(ofBs w,())))).bind fun v4=>((sl (ofBs r) (1:Int) ((ofBs r).length:Int)).bind fun v5=>(some ((v5,()),((),(v4.2.2.1,())))))) else ((sl (ofBs r) (0:Int) ((cpn r:Nat):Int)).bind fun v6=>((xt (Ev.upto N) ((v6,()),((),(ofBs w,())))).bind fun v7=>((sl (ofBs r) ((cpn r:Nat):Int) ((ofBs r).length:Int)).bind fun v8=>(some ((v8,()),((),(v7.2.2.1,())))))))) (fun x=>x=((ofBs (r.drop (cpn r)),()),((),(ofBs (w++cpw r),())))):=by
    intro b hb
    cases b with
    | true=>
     have hc:=hb.1 rfl
     have e1:cpn r=1:=by unfold cpn;rw [if_pos hc]
     have e2:cpw r = [239,191,189]:=by unfold cpw;rw [if_pos hc]
     rw [cond_true,ybe _ _ _ (by simp;omega),Option.bind_some,show (1:Int)=((1:Nat):Int) from rfl,zkw (by rw [zn];omega),Option.bind_some,e1,e2,zgi]
     exact⟨_,rfl,rfl⟩
    | false=>
     have hc:cpl r≠0:=fun h=>by have:=hb.2 h;cases this
     have e1:cpn r=cpl r:=by unfold cpn;rw [if_neg hc]
     have e2:cpw r=r.take (cpl r):=by unfold cpw;rw [if_neg hc]
     rw [cond_false,show (0:Int)=((0:Nat):Int) from rfl,zeh (Nat.zero_le _) (by rw [zn];omega),Option.bind_some,List.drop_zero,zjm,ycp _ _ _ (by simp;omega),Option.bind_some,zkw (by rw [zn];omega),Option.bind_some,e2,e1,zgi]
     exact⟨_,rfl,rfl⟩
   have nxt:w++cpw r++U (r.drop (cpn r))=R:=by rw [List.append_assoc];exact hw
   have l1:(r.drop (cpn r)).length<r.length:=by simp;omega
   cases hq:(q==65533) with
   | true=>
    obtain⟨x,e3,rfl⟩:=fin (((cpn r:Nat):Int)==1) ⟨fun h=>h1 hq h,fun h=>by unfold cpn;rw [if_pos h];rfl⟩
    simp -implicitDefEqProofs only [beq_self_eq_true,cond_true,Option.bind_some,e3]
    exact⟨_,rfl,⟨_,_,rfl,nxt,by omega⟩,by simp only [zn];exact l1⟩
   | false=>
    obtain⟨x,e3,rfl⟩:=fin false ⟨fun h=>by (cases h),fun h=>by (rw [h2 h]at hq;cases hq)⟩
    have bb:(false==true)=false:=rfl
    simp -implicitDefEqProofs only [bb,cond_false,Option.bind_some,e3]
    exact⟨_,rfl,⟨_,_,rfl,nxt,by omega⟩,by simp only [zn];exact l1⟩
 ·rintro _ rfl
  unfold zf
  simp -implicitDefEqProofs only [beq_self_eq_true,cond_true,Option.bind_some,zjk]
  exact⟨_,rfl,rfl⟩
abbrev Rd:=(Int×(Int×(Int×Int)))×Int
def RD (x:Rd) (K:Bs):Prop:=x.2=(K.length:Int)∧K.length≤3∧List.take K.length [x.1.1,x.1.2.1,x.1.2.2.1,x.1.2.2.2]=ofBs K
theorem z8b:RD ((0,(0,(0,0))),0) []:=⟨rfl,by simp,rfl⟩
theorem z3b (n k:Nat) (s:Bs) (h0:0<k) (h:k≤s.length):zpl (n+1) k s=if ct (s[s.length-k]'(by omega))=true then zpl n (k+1) s else (if inc (s.drop (s.length-k))=true then k else 0):=by
 show (if k≤s.length then _ else _)=_
 rw [if_pos h,List.getElem?_eq_getElem (by omega)]
theorem z7c (N:Nat) (x:Rd) (K b:Bs) (hx:RD x K) (hb:b.length≤100000) (hN:200000<N):∃x':Rd,je (Ev.upto N) ((ofBs b,()),((x,()),())) =
  some ((U ((K++b).take ((K++b).length-keep (K++b))),((0:Int),())),((x',()),()))∧RD x' ((K++b).drop ((K++b).length-keep (K++b))):=by
 obtain⟨h1,h2,h3⟩:=hx
 obtain⟨⟨x0,x1,x2,x3⟩,m⟩:=x
 simp only at h1 h3
 subst h1
 have g1:(decide ((0:Int)≤(K.length:Int))&&decide ((K.length:Int)≤(4:Int)))=true:=by rw [decide_eq_true (show (0:Int)≤(K.length:Int) by omega),decide_eq_true (show (K.length:Int)≤4 by omega)];rfl
 have tk:List.take (Int.toNat (K.length:Int)) [x0,x1,x2,x3]=ofBs K:=by rw [Int.toNat_natCast];exact h3
 generalize hA:K++b=A
 have hAl:A.length=K.length+b.length:=by rw [←hA];simp
 have hAl2:A.length≤100003:=by omega
 have hap:([]:List Int)++ofBs K++ofBs b=ofBs A:=by rw [List.nil_append,kg,hA]
 obtain⟨k1,k2,_⟩:=zzr A []
 have hloop:∀W:Nat→Int,True:=fun _=>trivial
 have main:wp (je (Ev.upto N) ((ofBs b,()),((((x0,(x1,(x2,x3))),(K.length:Int)),()),()))) (fun r=>∃x':Rd,r=((U (A.take (A.length-keep A)),((0:Int),())),((x',()),()))∧RD x' (A.drop (A.length-keep A))):=by
  unfold je
  simp -implicitDefEqProofs only [g1,cond_true,tk,zn,List.length_append,List.length_nil,zc7 (n:=0+K.length) (k:=1) (by omega),zc7 (n:=0+K.length+b.length) (k:=1) (by omega),hap,Option.bind_some]
  refine zew (fun r=>r=((((A.length-keep A:Nat):Int),()),((((x0,(x1,(x2,x3))),(K.length:Int)),()),(ofBs A,())))) ?_ ?_
  ·refine z0p (fun a=>∃k:Nat,a=((((A.length:Nat):Int),((k:Int),())),((((x0,(x1,(x2,x3))),(K.length:Int)),()),(ofBs A,())))∧1≤k∧k≤4∧zpl (4-k) k A=keep A) (fun a=>4-a.1.2.1.toNat) ⟨1,rfl,by omega,by omega,rfl⟩ (by simp;omega) ?_
   rintro _ ⟨k,rfl,hk1,hk4,hkF⟩
   simp -implicitDefEqProofs only [zn]
   by_cases h4:k<4
   ·obtain⟨j,hj⟩:∃j,4-k=j+1:=⟨3-k,by omega⟩
    rw [hj]at hkF
    rw [show decide ((k:Int)<4)=true from decide_eq_true (by omega)]
    by_cases hl:k≤A.length
    ·rw [show decide ((k:Int)≤(A.length:Int))=true from decide_eq_true (by omega)]
     have w:IntKind.wrap .i64 ((A.length:Int)-(k:Int))=((A.length-k:Nat):Int):=by rw [jm (by omega) (by omega)];omega
     have c1:(decide (0≤((A.length-k:Nat):Int))&&decide (((A.length-k:Nat):Int)≤(A.length:Int))&&decide ((A.length:Int)≤(A.length:Int)))=true:=by
      rw [decide_eq_true (show (0:Int)≤((A.length-k:Nat):Int) by omega),decide_eq_true (show ((A.length-k:Nat):Int)≤(A.length:Int) by omega),decide_eq_true (Int.le_refl _)];rfl
     have c2:(decide ((0:Int)≤0)&&decide ((0:Int)<((((A.length:Int)).toNat-(((A.length-k:Nat):Int)).toNat:Nat):Int)))=true:=by
      rw [decide_eq_true (Int.le_refl _),decide_eq_true (show (0:Int)<((((A.length:Int)).toNat-(((A.length-k:Nat):Int)).toNat:Nat):Int) by simp;omega)];rfl
     have hlt:A.length-k<A.length:=by omega
     have c3:(ofBs A)[(((A.length-k:Nat):Int)).toNat+((0:Int)).toNat]? = some ((A[A.length-k].toNat:Nat):Int):=by
      simp [ofBs]
      exact⟨_,List.getElem?_eq_getElem hlt,rfl⟩
     have c4:((ofBs A).drop (((A.length-k:Nat):Int)).toNat).take ((((A.length:Int)).toNat-(((A.length-k:Nat):Int)).toNat))=ofBs (A.drop (A.length-k)):=by
      rw [zgi,zjm,Int.toNat_natCast,Int.toNat_natCast,List.take_of_length_le (by simp)]
     have bt:(true==true)=true:=rfl
     have c5:=zzs (Ev.upto N) (A[A.length-k]'hlt)
     simp -implicitDefEqProofs only [bt,cond_true,Option.bind_some,zn,w,c1,c2,c3,c5,c4]
     rw [z3b _ _ _ (by omega) hl]at hkF
     cases hct:ct A[A.length-k] with
     | true=>
      rw [hct,if_pos rfl]at hkF
      have wk:IntKind.wrap .i64 ((k:Int)+1)=((k+1:Nat):Int):=by rw [jm (by omega) (by omega)];omega
      simp -implicitDefEqProofs only [Bool.not_true,cond_false,Option.bind_some,zn,wk]
      exact⟨_,rfl,⟨k+1,rfl,by omega,by omega,by rw [show 4-(k+1)=j by omega];exact hkF⟩,by simp;omega⟩
     | false=>
      rw [hct,if_neg (by decide)]at hkF
      have hne:A.drop (A.length-k) ≠ []:=by intro e;simp at e;omega
      simp -implicitDefEqProofs only [Bool.not_false,cond_true,Option.bind_some,z00 _ _ hne,Bool.not_not]
      cases hi:inc (A.drop (A.length-k)) with
      | true=>
       rw [hi,if_pos rfl]at hkF
       simp -implicitDefEqProofs only [cond_true,Option.bind_some,w]
       exact⟨_,rfl,by rw [←hkF]⟩
      | false=>
       rw [hi,if_neg (by decide)]at hkF
       simp -implicitDefEqProofs only [cond_false,Option.bind_some]
       exact⟨_,rfl,by rw [←hkF];rfl⟩
    ·rw [show decide ((k:Int)≤(A.length:Int))=false from decide_eq_false (by omega)]
     have:zpl (j+1) k A=0:=by show (if k≤A.length then _ else _)=_;rw [if_neg hl]
     rw [this]at hkF
     have bt:(true==true)=true:=rfl
     simp -implicitDefEqProofs only [bt,cond_true,cond_false,Option.bind_some]
     exact⟨_,rfl,by rw [←hkF];rfl⟩
   ·obtain rfl:k=4:=by omega
    have hkF':0=keep A:=hkF
    rw [show decide (((4:Nat):Int)<4)=false from rfl]
    have bt:(false==true)=false:=rfl
    simp -implicitDefEqProofs only [bt,cond_false,Option.bind_some]
    exact⟨_,rfl,by rw [←hkF'];rfl⟩
  ·rintro _ rfl
   generalize hE:A.length-keep A=e at *
   have he:e≤A.length:=by omega
   have c1:(decide (0≤(e:Int))&&decide ((e:Int)≤(A.length:Int))&&decide ((A.length:Int)≤(A.length:Int)))=true:=by
    rw [decide_eq_true (show (0:Int)≤(e:Int) by omega),decide_eq_true (show (e:Int)≤(A.length:Int) by omega),decide_eq_true (Int.le_refl _)];rfl
   have s1:sl (ofBs A) (0:Int) (e:Int)=some (ofBs (A.take e)):=by
    rw [show (0:Int)=((0:Nat):Int) from rfl,zeh (Nat.zero_le _) (by rw [zn];omega),List.drop_zero,zjm]
   have c4:((ofBs A).drop ((e:Int)).toNat).take (((A.length:Int)).toNat-((e:Int)).toNat)=ofBs (A.drop e):=by
    rw [zgi,zjm,Int.toNat_natCast,Int.toNat_natCast,List.take_of_length_le (by simp)]
   simp -implicitDefEqProofs only [zn,c1,cond_true,s1,Option.bind_some,c4,zwu N (A.take e) (by simp;omega) (by simp;omega)]
   refine⟨_,rfl,_,rfl,?_⟩
   have hD:(A.drop e).length≤3:=by simp;omega
   generalize A.drop e=D at hD
   refine⟨?_,hD,?_⟩
   ·show mn ((D.length:Nat):Int) 4=_
    unfold mn
    split<;>omega
   ·match D,hD with
    | [],_=>rfl
    | [a],_=>rfl
    | [a,b],_=>rfl
    | [a,b,c],_=>rfl
    | a::b::c::d::r,h=>simp at h
 obtain⟨r,e,x',rfl,hr⟩:=main
 exact⟨x',e,hr⟩
end Go.En.Pl
