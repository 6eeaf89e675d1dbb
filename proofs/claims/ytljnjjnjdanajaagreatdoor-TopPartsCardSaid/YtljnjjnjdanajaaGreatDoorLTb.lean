/- Text LTb of this seat: written by a program of ours, or by hand; checked by Lean. -/
import Derived.Test.YtljnjjnjdanajaaGreatDoorLTa
set_option linter.unusedSimpArgs false
set_option linter.unusedVariables false
namespace Go.En.Pl
theorem z9q (N:Nat) (x:Rd) (K:Bs) (hx:RD x K) (hN:10<N):∃x':Rd,uh (Ev.upto N) ((),((x,()),()))=some ((U K,((0:Int),())),((x',()),()))∧RD x' []:=by
 obtain⟨h1,h2,h3⟩:=hx
 obtain⟨⟨x0,x1,x2,x3⟩,m⟩:=x
 simp only at h1 h3
 subst h1
 have g1:(decide ((0:Int)≤(K.length:Int))&&decide ((K.length:Int)≤(4:Int)))=true:=by rw [decide_eq_true (show (0:Int)≤(K.length:Int) by omega),decide_eq_true (show (K.length:Int)≤4 by omega)];rfl
 have tk:List.take (Int.toNat (K.length:Int)) [x0,x1,x2,x3]=ofBs K:=by rw [Int.toNat_natCast];exact h3
 unfold uh
 simp -implicitDefEqProofs only [g1,cond_true,tk,zwu N K (by omega) (by omega),Option.bind_some]
 exact⟨_,rfl,rfl,by simp,rfl⟩
theorem ybf {n:Int} (h:Rng .u8 n):0≤n∧n≤255:=by
 have h':(Lit.int .u8 n).wf=true:=h
 simp [Lit.wf,IntKind.min,IntKind.max,IntKind.signed,IntKind.bits]at h'
 omega
theorem z7d {e:Nat} {l:List Int} (h:(Ty.slice e (.int .u8)).ok l):∃s:Bs,l=ofBs s:=by
 have h2:∀x∈l,Rng .u8 x:=h.2
 clear h
 induction l with
 | nil=>exact⟨[],rfl⟩
 | cons a l ih=>
  obtain⟨s,hs⟩:=ih fun x hx=>h2 x (List.mem_cons_of_mem _ hx)
  obtain⟨h3,h4⟩:=ybf (h2 a (List.mem_cons_self ..))
  refine⟨UInt8.ofNat a.toNat::s,?_⟩
  rw [zbj,←hs,UInt8.toNat_ofNat']
  congr 1
  omega
def FD (F:Bs) (c:Int) (x:Rd) (buf:List Int):Prop:=c=(F.length:Int)∧F.length≤20000∧∃K T:Bs,RD x K∧buf=ofBs T∧T.length≤100000∧∀y,U (F++y)=T++U (K++y)
theorem z8c {x:Rd} (h:RD x []):FD [] 0 x []:=⟨rfl,by simp,[],[],h,rfl,by simp,fun y=>rfl⟩
theorem z9r {F:Bs} {c:Int} {x:Rd} {buf:List Int} (N:Nat) (h:FD F c x buf) (b:Bs) (hb:F.length+b.length≤20000) (hN:200000<N):∃(s:Bs) (x':Rd) (T:Bs),buf=ofBs T∧T.length+s.length≤100000 ∧
  je (Ev.upto N) ((ofBs b,()),((x,()),()))=some ((s,((0:Int),())),((x',()),()))∧FD (F++b) ((F.length+b.length:Nat):Int) x' (ofBs (T++s)):=by
 obtain⟨rfl,h1,K,T,h2,rfl,h3,h4⟩:=h
 obtain⟨x',e,hx'⟩:=z7c N x K b h2 (by omega) hN
 have hu:∀y,U (F++b++y)=T++U ((K++b).take ((K++b).length-keep (K++b)))++U ((K++b).drop ((K++b).length-keep (K++b))++y):=fun y=>by
  rw [List.append_assoc,h4,←List.append_assoc,(zzr (K++b) y).2.2,List.append_assoc]
 have hl:(T++U ((K++b).take ((K++b).length-keep (K++b)))).length≤100000:=by
  have h5:=z5i (F++b).length (F++b) (Nat.le_refl _)
  have h6:=hu []
  rw [List.append_nil]at h6
  rw [h6]at h5
  simp only [List.length_append]at h5 ⊢
  omega
 refine⟨_,x',T,rfl,by simpa using hl,e,by simp,by simp;omega,_,_,hx',rfl,hl,hu⟩
theorem ybg (V:Ev) (c:Int) (x:Rd) (s T:Bs) (h:T.length+s.length≤100000000):xc V ((s,()),((c,()),((x,()),(ofBs T,()))))=some (((s.length:Int),(false,())),((c,()),((x,()),(ofBs (T++s),())))):=by
 unfold xc ja
 simp -implicitDefEqProofs only [Option.bind_some,zn,zc7 (n:=T.length+s.length) (k:=1) (by omega),cond_true,kg]
theorem zzt (N:Nat) (F b:Bs) (c:Int) (x:Rd) (buf:List Int) (h:FD F c x buf) (hb:F.length+b.length≤20000) (hN:200000<N):∃(x':Rd) (buf':List Int),
  y1 (Ev.upto N) ((ofBs b,()),((c,()),((x,()),(buf,()))))=some (((0:Int),()),((((F.length+b.length:Nat):Int),()),((x',()),(buf',()))))∧FD (F++b) ((F.length+b.length:Nat):Int) x' buf':=by
 obtain⟨s,x',T,rfl,h1,e,h2⟩:=z9r N h b hb hN
 obtain⟨rfl,h3,_⟩:=h
 refine⟨x',_,?_,h2⟩
 have w1:IntKind.wrap .i64 ((20000:Int)-(F.length:Int))=20000-(F.length:Int):=jm (by omega) (by omega)
 have w2:IntKind.wrap .i64 ((F.length:Int)+(b.length:Int))=((F.length+b.length:Nat):Int):=by rw [jm (by omega) (by omega)];omega
 have d:decide ((b.length:Int)>20000-(F.length:Int))=false:=decide_eq_false (by omega)
 have q:=ybg (Ev.upto N) (F.length:Int) x' s T (by omega)
 unfold y1
 simp -implicitDefEqProofs only [Option.bind_some,zn,w1,d,cond_false,e,q,w2]
theorem z5q (N:Nat) (F:Bs) (c:Int) (x:Rd) (buf:List Int) (h:FD F c x buf) (hF:F.length≤5000) (hN:200000<N):∃x':Rd,
  jf (Ev.upto N) ((),((c,()),((x,()),(buf,()))))=some (((0:Int),()),(((0:Int),()),((x',()),((runT (U F)).2.1,((runT (U F)).2.2,())))))∧RD x' []:=by
 obtain⟨rfl,h1,K,T,h2,rfl,h3,h4⟩:=h
 obtain⟨x',e,hx'⟩:=z9q N x K h2 (by omega)
 have h5:=h4 []
 rw [List.append_nil,List.append_nil]at h5
 have h6:=z5i F.length F (Nat.le_refl _)
 have h7:T.length+(U K).length≤15000:=by
  rw [h5,List.length_append]at h6
  omega
 have q:=z5e N (U F) (by omega) (by omega)
 rw [h5]at q
 refine⟨x',?_,hx'⟩
 have s:qk (Ev.upto N) ((),(((F.length:Int),()),((x',()),(ofBs T,()))))=some ((T,()),(((F.length:Int),()),((x',()),()))):=by
  unfold qk
  simp -implicitDefEqProofs only [beq_self_eq_true,cond_true,zjk]
 have rs:kq (Ev.upto N) ((),(((F.length:Int),()),((x',()),())))=some ((),(((F.length:Int),()),((x',()),()))):=rfl
 unfold jf
 rw [h5]
 simp -implicitDefEqProofs only [e,s,Option.bind_some,zwq (n:=T.length+(U K).length) (by omega),cond_true,rs,q]
theorem z5r (V:Ev):zb2 V ((),())=some ((),(((0:Int),()),((((((0:Int),((0:Int),((0:Int),(0:Int)))),(0:Int)):Rd),()),()))):=rfl
def szA (s:Bs) (l:List Att):Prop:=l.length≤30∧∀a∈l,a.1.length≤s.length∧a.2.length≤4*s.length
def szT (s:Bs) (u:Tok):Prop:=u.2.1.length≤s.length∧szA s u.2.2.2.1
def szO (s:Bs) (out:List Tok):Prop:=∀u∈out,szT s u
theorem z7e (s:Bs) (i:Nat):(attN s i).length≤s.length:=by
 unfold attN
 rw [zkk]
 simp only [List.length_drop,List.length_take]
 omega
theorem z7f (s:Bs) (i:Nat):(valP s i).1.length≤4*s.length:=by
 unfold valP
 split
 ·split
  ·rename_i k hk
   have:=zds ((s.drop (i+1)).take k) ((i+1:Nat):Int)
   refine Nat.le_trans this ?_
   simp only [List.length_take,List.length_drop]
   omega
  ·have:=zds (s.drop (i+1)) ((i+1:Nat):Int)
   refine Nat.le_trans this ?_
   simp only [List.length_drop]
   omega
 ·have:=zds ((s.drop i).take (ku zqx s i)) (i:Nat)
  refine Nat.le_trans this ?_
  simp only [List.length_take,List.length_drop]
  omega
theorem z9s (s:Bs) (i:Nat) (k:Int) (l:List Att) (h:szA s l):szA s (attS s i k l).2.2.1:=by
 have hl:=z5a s i k l h.1
 refine⟨hl,?_⟩
 have add:∀(c:Bool) (v:Bs),v.length≤4*s.length→∀a∈(bif c then l ++ [(attN s i,v)] else l),a.1.length≤s.length∧a.2.length≤4*s.length:=by
  intro c v hv a ha
  cases c with
  | false=>exact h.2 a ha
  | true=>
   rcases List.mem_append.1 ha with ha | ha
   ·exact h.2 a ha
   ·rw [List.mem_singleton.1 ha]
    exact⟨z7e s i,hv⟩
 unfold attS
 split
 ·exact add _ _ (z7f s _)
 ·exact add _ _ (Nat.zero_le _)
theorem z01 (s:Bs) (k:Int):∀(n i:Nat) (sl:Bool) (l:List Att) (g:List Fl) (r:Nat×Bool×List Att×List Fl),szA s l→tagL s k n i sl l g=some r→szA s r.2.2.1
 | 0,i,sl,l,g,r,_,h=>by cases h
 | n+1,i,sl,l,g,r,hl,h=>by
  rw [tagL]at h
  cases hc:s[i]? with
  | none=>rw [hc]at h;cases h
  | some c=>
   rw [hc]at h
   simp only at h
   split at h
   ·cases h;exact hl
   ·split at h
    ·exact z01 s k n _ _ _ _ _ hl h
    ·split at h
     ·exact z01 s k n _ _ _ _ _ (z9s s i k l hl) h
     ·cases h
theorem z7g (s:Bs):szA s []:=⟨by simp,fun a ha=>by simp at ha⟩
theorem z02 {s:Bs} {out:List Tok} {t:Tok} (h:szO s out) (ht:szT s t):szO s (zln out t):=by
 intro u hu
 have app:u∈out ++ [t]→szT s u:=fun h1=>by
  rcases List.mem_append.1 h1 with h1 | h1
  ·exact h u h1
  ·rw [List.mem_singleton.1 h1];exact ht
 unfold zln at hu
 split at hu
 ·split at hu
  ·exact h u hu
  ·split at hu
   ·unfold z45 at hu
    split at hu
    ·rename_i v hv
     rcases List.mem_or_eq_of_mem_set hu with h1 | h1
     ·exact h u h1
     ·rw [h1];exact h v (List.mem_of_getElem? hv)
    ·exact h u hu
   ·exact app hu
 ·exact app hu
theorem z2a {s:Bs} {out:List Tok} {t:Tok} (h:szO s out) (ht:szT s t):szO s (out ++ [t]):=by
 intro u hu
 rcases List.mem_append.1 hu with h1 | h1
 ·exact h u h1
 ·rw [List.mem_singleton.1 h1];exact ht
theorem z9t (s x:Bs):szT s (tx x):=⟨Nat.zero_le _,z7g s⟩
theorem ybh {s n:Bs} {i:Nat} {out:List Tok} {f:List Fl} (h:szO s out):szO s (rawS s n i out f).2.1:=z02 (t:=tx (bif zhk n then rawX s n i else (dec (rawX s n i) 0).1)) h (z9t s _)
theorem z2b (s:Bs) (i:Nat):(tagN s i).length≤s.length:=by
 unfold tagN
 rw [zkk]
 simp only [List.length_take,List.length_drop]
 omega
theorem z8d {s:Bs} {k:Int} {i i1:Nat} {out:List Tok} {f:List Fl} (h:szO s out):szO s (tagS s k i i1 out f).2.1:=by
 unfold tagS
 cases hT:tagL s k s.length (tagI s i1) false [] [] with
 | none=>exact h
 | some r=>
  obtain⟨j,sh,l,g⟩:=r
  have:=z01 s k _ _ _ _ _ _ (z7g s) hT
  dsimp only
  split
  ·exact ybh (z2a h ⟨z2b s _,this⟩)
  ·exact z2a h ⟨z2b s _,this⟩
theorem z03 {s e:Bs} {k:Int} {b i:Nat} {out:List Tok} {f:List Fl} (h:szO s out):szO s (zsc s k b e i out f).2.1:=by
 unfold zsc
 split
 ·exact z2a h ⟨Nat.zero_le _,z7g s⟩
 ·exact z2a h ⟨Nat.zero_le _,z7g s⟩
theorem z9u {s:Bs} {st:St} (h:szO s st.2.1):szO s (stepS s st).2.1:=by
 unfold stepS
 split
 ·unfold zzq
  split
  ·exact z8d h
  ·split
   ·exact z8d h
   ·split
    ·exact z03 h
    ·split
     ·exact z03 h
     ·split
      ·exact z03 h
      ·exact z02 (t:=tx [60]) h (z9t s _)
 ·exact z02 (t:=tx (dec ((s.drop st.1).take (ku zcr s st.1)) 0).1) h (z9t s _)
theorem z8e (s:Bs):∀(n:Nat) (st:St),szO s st.2.1→szO s (runS s n st).2.1
 | 0,st,h=>h
 | n+1,st,h=>by
  rw [runS]
  split
  ·exact z8e s n _ (z9u h)
  ·exact h
theorem z7h {n k:Nat} (h:n*k≤10000000000000):fits n k=true:=decide_eq_true (Nat.le_trans h (by decide))
theorem z2c {n:Nat} (h:n≤10000000000000):zx n=true:=decide_eq_true (Nat.le_trans h (by decide))
def enc1 (c:UInt8):Bs:=bif ((c.toNat:Int)==38) then [38,97,109,112,59] else bif ((c.toNat:Int)==60) then [38,108,116,59] else bif ((c.toNat:Int)==62) then [38,103,116,59] else
 bif ((c.toNat:Int)==34) then [38,113,117,111,116,59] else bif ((c.toNat:Int)==39) then [38,97,112,111,115,59] else [c]
def enc (s:Bs):Bs:=s.flatMap enc1
theorem z7i (c:UInt8):(enc1 c).length≤6:=by
 unfold enc1
 cases ((c.toNat:Int)==38)<;>simp only [cond_true,cond_false]
 ·cases ((c.toNat:Int)==60)<;>simp only [cond_true,cond_false]
  ·cases ((c.toNat:Int)==62)<;>simp only [cond_true,cond_false]
   ·cases ((c.toNat:Int)==34)<;>simp only [cond_true,cond_false]
    ·cases ((c.toNat:Int)==39)<;>simp
    ·decide
   ·decide
  ·decide
 ·decide
theorem zn4 (s:Bs):(enc s).length≤6*s.length:=by
 induction s with
 | nil=>simp [enc]
 | cons c s ih=>
  have:=z7i c
  simp only [enc,List.flatMap_cons,List.length_append,List.length_cons]at ih ⊢
  omega
theorem z7j (s:Bs) (i:Nat) (h:i<s.length):enc (s.take (i+1))=enc (s.take i)++enc1 s[i]:=by
 simp only [enc]
 rw [List.take_succ_eq_append_getElem h,List.flatMap_append]
 simp
theorem ybi (V:Ev) (x:Bs) (l:List Int) (h:l.length+x.length≤10000000000000):za V ((x,()),((),(l,())))=some ((((x.length:Int)),(false,())),((),((l++ofBs x),()))):=by
 unfold za zc
 simp only [Option.bind_some,z7h (show (l.length+x.length)*1≤10000000000000 by omega),cond_true]
theorem ycq (V:Ev) (n:Int) (l:List Int) (h:l.length≤100000000000):y5 V ((n,()),((),(l,())))=some ((false,()),((),((l ++ [n]),()))):=by
 unfold y5 zc
 simp only [Option.bind_some,z7h (show (l.length+([n]:List Int).length)*1≤10000000000000 by simp;omega),cond_true]
theorem z9v (V:Ev) (l:List Int):zf V ((),((),(l,())))=some ((toBs l,()),((),())):=by
 unfold zf
 simp only [beq_self_eq_true,cond_true]
theorem zuv (N:Nat) (s:Bs) (hs:s.length≤400000000) (hN:400000000<N):kr (Ev.upto N) ((s,()),())=some ((enc s,()),()):=by
 unfold kr
 refine yax (fun i=>((s,((s.length:Int),((i:Int),()))),((),(ofBs (enc (s.take i)),())))) s.length ((),((),(ofBs (enc s),()))) rfl ?_ ?_ (by omega) (by rw [z9v];simp only [zjk];rfl)
 ·intro i hi
  have hl:=zn4 (s.take i)
  have hl2:(s.take i).length≤400000000:=by simp;omega
  have hw:IntKind.wrap .i64 ((i:Int)+1)=(i:Int)+1:=jm (by omega) (by omega)
  have h18:∀x:Bs,x.length≤6→za (Ev.upto N) ((x,()),((),(ofBs (enc (s.take i)),())))=some ((((x.length:Int)),(false,())),((),(ofBs (enc (s.take i)++x),()))):=fun x hx=>by
   rw [ybi _ _ _ (by rw [zn];omega),kg]
  have h21:y5 (Ev.upto N) ((((s[i].toNat:Int)),()),((),(ofBs (enc (s.take i)),())))=some ((false,()),((),(ofBs (enc (s.take i) ++ [s[i]]),()))):=by
   rw [ycq _ _ _ (by rw [zn];omega),←kg];rfl
  have hfin:((i+1:Nat):Int)=(i:Int)+1:=by omega
  have hsf:∀a b:Nat,a≤10→b≤10→zx (a+b)=true:=fun a b _ _=>z2c (by omega)
  have e38:=zui s[i] 38 (by decide)
  have e60:=zui s[i] 60 (by decide)
  have e62:=zui s[i] 62 (by decide)
  have e34:=zui s[i] 34 (by decide)
  have e39:=zui s[i] 39 (by decide)
  simp only [jv hi,Option.bind_some,hw,yaw hi,z7j s i hi,hfin,show decide ((i:Int)<(s.length:Int))=true from by simpa using hi,cond_true,enc1,
   show ([s[i]]==([38]:Bs))=(((s[i].toNat:Int))==38) from e38,show ([s[i]]==([60]:Bs))=(((s[i].toNat:Int))==60) from e60,show ([s[i]]==([62]:Bs))=(((s[i].toNat:Int))==62) from e62,
   show ([s[i]]==([34]:Bs))=(((s[i].toNat:Int))==34) from e34,show ([s[i]]==([39]:Bs))=(((s[i].toNat:Int))==39) from e39,
   List.length_cons,List.length_nil,List.length_append,List.cons_append,List.nil_append,hsf _ _ (by decide:(0+1≤10)) (by decide:(0+1+1+1≤10))]
  cases ((s[i].toNat:Int)==38)<;>simp only [cond_true,cond_false,Option.bind_some,hw,jv hi,h21]
  cases ((s[i].toNat:Int)==60)<;>simp only [cond_true,cond_false,Option.bind_some,hw,jv hi,h21]
  cases ((s[i].toNat:Int)==62)<;>simp only [cond_true,cond_false,Option.bind_some,hw,jv hi,h21]
  cases ((s[i].toNat:Int)==34)<;>simp only [cond_true,cond_false,Option.bind_some,hw,jv hi,h21]
  cases ((s[i].toNat:Int)==39)<;>simp only [cond_true,cond_false,Option.bind_some,hw,jv hi,h21]
  all_goals
   simp only [zx,maxB,Nat.reduceAdd,Nat.reduceLeDiff,decide_true,cond_true]
   rw [h18 _ (by decide)]
   simp only [Option.bind_some,hw]
 ·simp [List.take_length]
theorem ybj (V:Ev) (x:Bs) (l:List Int) (h:l.length+x.length≤10000000000000):zh V ((x,()),((),(l,())))=some ((((x.length:Int)),(false,())),((),((l++ofBs x),()))):=by
 unfold zh zc
 simp only [Option.bind_some,z7h (show (l.length+x.length)*1≤10000000000000 by omega),cond_true]
def z5s (a:Att):Bs:=[32]++a.1 ++ [61,34]++enc a.2 ++ [34]
def zej (l:List Att):Bs:=l.flatMap z5s
def zky (t:Tok):Bs:=[60]++t.2.1++zej t.2.2.2.1++(bif t.2.2.2.2 then [47] else []) ++ [62]
def z9w (t:Tok):Bool:=t.1==2&&zhk t.2.1
def tokP (c:Bool) (t:Tok):Bs:=
 bif t.1==1 then (bif c then t.2.2.1 else enc t.2.2.1) else bif t.1==2 then zky t else bif t.1==3 then [60,47]++t.2.1 ++ [62] else bif t.1==4 then [60,33,45,45]++t.2.2.1 ++ [45,45,62] else
 bif t.1==5 then [60,33,100,111,99,116,121,112,101,32]++t.2.2.1 ++ [62] else []
def zx8 (l:List Tok):Nat→Bool
 | 0=>false
 | i+1=>match l[i]? with
  | some t=>z9w t
  | none=>false
def pre (l:List Tok):Nat→Bs
 | 0=>[]
 | i+1=>pre l i++(match l[i]? with
  | some t=>tokP (zx8 l i) t
  | none=>[])
theorem z2d {l:List Tok} {i:Nat} (h:i<l.length):pre l (i+1)=pre l i++tokP (zx8 l i) l[i]:=by
 rw [pre,List.getElem?_eq_getElem h]
theorem z3c {l:List Tok} {i:Nat} (h:i<l.length):zx8 l (i+1)=z9w l[i]:=by
 rw [zx8,List.getElem?_eq_getElem h]
def okA (a:Att):Prop:=a.1.length≤5000∧a.2.length≤20000
def okT (t:Tok):Prop:=t.2.1.length≤5000∧t.2.2.1.length≤400000000∧t.2.2.2.1.length≤50∧∀a∈t.2.2.2.1,okA a
theorem z5t {a:Att} (h:okA a):(z5s a).length≤130000:=by
 obtain⟨h1,h2⟩:=h
 have:=zn4 a.2
 unfold z5s
 simp only [List.length_append,List.length_cons,List.length_nil]
 omega
theorem zms:∀l:List Att,(∀a∈l,okA a)→(zej l).length≤130000*l.length
 | [],_=>by simp [zej]
 | a::l,h=>by
  have h1:=zms l (fun b hb=>h b (List.mem_cons_of_mem _ hb))
  have h2:=z5t (h a List.mem_cons_self)
  simp only [zej,List.flatMap_cons,List.length_append,List.length_cons]at h1 ⊢
  omega
theorem zx9 {c:Bool} {t:Tok} (h:okT t):(tokP c t).length≤3000000000:=by
 obtain⟨h1,h2,h3,h4⟩:=h
 have e:=zn4 t.2.2.1
 have a:=zms _ h4
 unfold tokP
 cases (t.1==1)<;>simp only [cond_true,cond_false]
 ·cases (t.1==2)<;>simp only [cond_true,cond_false]
  ·cases (t.1==3)<;>simp only [cond_true,cond_false]
   ·cases (t.1==4)<;>simp only [cond_true,cond_false]
    ·cases (t.1==5)<;>simp only [cond_true,cond_false,List.length_append,List.length_cons,List.length_nil]<;>omega
    ·simp only [List.length_append,List.length_cons,List.length_nil];omega
   ·simp only [List.length_append,List.length_cons,List.length_nil];omega
  ·unfold zky
   cases t.2.2.2.2<;>simp only [cond_true,cond_false,List.length_append,List.length_cons,List.length_nil]<;>omega
 ·cases c<;>simp only [cond_true,cond_false]<;>omega
theorem z5u {l:List Tok} (h:∀t∈l,okT t):∀i,i≤l.length→(pre l i).length≤3000000000*i
 | 0,_=>by simp [pre]
 | i+1,hi=>by
  have h1:=z5u h i (by omega)
  have h2:(tokP (zx8 l i) l[i]).length≤3000000000:=zx9 (h _ (List.getElem_mem (by omega)))
  rw [z2d (by omega),List.length_append]
  omega
theorem z04 {l:List Att} {j:Nat} (h:j<l.length):zej (l.take (j+1))=zej (l.take j)++z5s l[j]:=by
 simp only [zej]
 rw [List.take_succ_eq_append_getElem h,List.flatMap_append]
 simp
theorem sf {a b:Nat} (ha:a≤900000000000) (hb:b≤10000000000):zx (a+b)=true:=z2c (by omega)
theorem WSc (V:Ev) (x b:Bs) (h:b.length+x.length≤10000000000000):za V ((x,()),((),(ofBs b,())))=some ((((x.length:Int)),(false,())),((),((ofBs (b++x),())))):=by
 rw [ybi _ _ _ (by rw [zn];exact h),kg]
theorem WSd (V:Ev) (x b:Bs) (h:b.length+x.length≤10000000000000):zh V ((x,()),((),(ofBs b,())))=some ((((x.length:Int)),(false,())),((),((ofBs (b++x),())))):=by
 rw [ybj _ _ _ (by rw [zn];exact h),kg]
theorem z7k (N:Nat) (l:List Tok) (hl:l.length≤100) (h:∀t∈l,okT t) (hN:400000000<N):zb3 (Ev.upto N) ((l,()),())=some ((pre l l.length,()),()):=by
 apply zr9
 unfold zb3
 refine zc6 ?_
 refine zrk (σ:=Unit) (fun i _=>((zx8 l i,(l,((l.length:Int),((i:Int),())))),((),(ofBs (pre l i),())))) (fun i _=>True) l.length () rfl trivial (by omega) ?_
 rintro i _ hi _
 by_cases hi':i<l.length
 ·have c0:decide ((i:Int)<(l.length:Int))=true:=decide_eq_true (by omega)
  have w:IntKind.wrap .i64 ((i:Int)+1)=((i+1:Nat):Int):=by rw [jm (by omega) (by omega)];omega
  have lp:=z5u h i hi
  have ok:=h _ (List.getElem_mem hi')
  obtain⟨h1,h2,h3,h4⟩:=ok
  have pb:(pre l i).length≤400000000000:=by omega
  have el:=zn4 l[i].2.2.1
  have tl:∀c,(tokP c l[i]).length≤3000000000:=fun c=>zx9 (h _ (List.getElem_mem hi'))
  have ps:=z2d hi'
  have cs:=z3c hi'
  have tp:∀c,tokP c l[i]=tokP c l[i]:=fun _=>rfl
  have hpl:∀o:Option (((Bool×Unit))×Unit),True:=fun _=>trivial
  have pq:=z12 (Ev.upto N) l[i].2.1
  have fin:∀b:Bs,b=pre l i++tokP (zx8 l i) l[i]→wp ((bif ((l[i].1==(2:Int))==true) then ((vx (Ev.upto N) ((l[i].2.1,()),())).bind fun v24=>(some ((v24.1.1,(l,((l.length:Int),((i:Int),())))),((),(ofBs b,()))))) else (some ((false,(l,((l.length:Int),((i:Int),())))),((),(ofBs b,()))))):Option ((Bool×(List Tok)×Int×Int×Unit)×(Unit×(List Int)×Unit))) (fun o=>o=((zx8 l (i+1),(l,((l.length:Int),((i:Int),())))),((),(ofBs (pre l (i+1)),())))):=by
   intro b hb
   rw [←ps]at hb
   subst hb
   rw [cs]
   unfold z9w
   cases (l[i].1==2) with
   | true=>
    simp -implicitDefEqProofs only [beq_self_eq_true,cond_true,pq,Option.bind_some,Bool.true_and]
    exact⟨_,rfl,rfl⟩
   | false=>exact⟨_,rfl,rfl⟩
  simp -implicitDefEqProofs only [c0,cond_true,jv hi',Option.bind_some]
  cases k1:(l[i].1==(1:Int)) with
  | true=>
   have tp:∀c,tokP c l[i]=bif c then l[i].2.2.1 else enc l[i].2.2.1:=fun c=>by unfold tokP;rw [k1];rfl
   have q:=zuv N l[i].2.2.1 (by omega) (by omega)
   have g1:=WSc (Ev.upto N) l[i].2.2.1 (pre l i) (by omega)
   have g2:=WSc (Ev.upto N) (enc l[i].2.2.1) (pre l i) (by omega)
   cases hc:zx8 l i with
   | true=>
    obtain⟨_,e,rfl⟩:=fin (pre l i++l[i].2.2.1) (by rw [tp,hc];rfl)
    simp -implicitDefEqProofs only [cond_true,g1,Option.bind_some,e,w]
    exact⟨_,rfl,hi',(),rfl,trivial⟩
   | false=>
    obtain⟨_,e,rfl⟩:=fin (pre l i++enc l[i].2.2.1) (by rw [tp,hc];rfl)
    simp -implicitDefEqProofs only [cond_true,cond_false,q,g2,Option.bind_some,e,w]
    exact⟨_,rfl,hi',(),rfl,trivial⟩
  | false=>
   simp -implicitDefEqProofs only [cond_false]
   cases k2:(l[i].1==(2:Int)) with
   | true=>
    have tp:∀c,tokP c l[i]=zky l[i]:=fun c=>by unfold tokP;rw [k1,k2];rfl
    have al:=zms _ h4
    have g0:zx (([60]:Bs).length+l[i].2.1.length)=true:=sf (by decide) (by omega)
    have g1:=WSc (Ev.upto N) ([60]++l[i].2.1) (pre l i) (by simp;omega)
    simp -implicitDefEqProofs only [cond_true,g0,g1,Option.bind_some]
    have loop:∀(st0:_),st0=((l,((l.length:Int),((i:Int),(l[i].2.2.2.1,((l[i].2.2.2.1.length:Int),((0:Int),())))))),((),((l[i],()),(ofBs (pre l i++([60]++l[i].2.1)),())))) →
     wp ((Ev.upto N).it (fun s8:(((List Tok)×Int×Int×(List Att)×Int×Int×Unit)×(Unit×(Tok×Unit)×(List Int)×Unit))=>(bif decide (s8.1.2.2.2.2.2.1<s8.1.2.2.2.2.1) then ((idx s8.1.2.2.2.1 s8.1.2.2.2.2.2.1).bind fun v9=>(bif zx ((([32]:Bs)).length+(v9.1).length) then (bif zx (((([32]:Bs)++v9.1)).length+(([61,34]:Bs)).length) then ((kr (Ev.upto N) ((v9.2,()),())).bind fun v10=>(bif zx ((((([32]:Bs)++v9.1)++([61,34]:Bs))).length+(v10.1.1).length) then (bif zx (((((([32]:Bs)++v9.1)++([61,34]:Bs))++v10.1.1)).length+(([34]:Bs)).length) then ((zh (Ev.upto N) ((((((([32]:Bs)++v9.1)++([61,34]:Bs))++v10.1.1)++([34]:Bs)),()),((),(s8.2.2.2.1,())))).bind fun v11=>(some (Sum.inl ((s8.1.1,(s8.1.2.1,(s8.1.2.2.1,(s8.1.2.2.2.1,(s8.1.2.2.2.2.1,((IntKind.wrap .i64 (s8.1.2.2.2.2.2.1+(1:Int))),())))))),((),((s8.2.2.1.1,()),(v11.2.2.1,()))))))) else none) else none)) else none) else none)) else (some (Sum.inr (((s8.1.1,(s8.1.2.1,(s8.1.2.2.1,()))),((),((s8.2.2.1.1,()),(s8.2.2.2.1,())))):(((List Tok)×Int×Int×Unit)×(Unit×(Tok×Unit)×(List Int)×Unit))))))) st0) (fun o=>o=((l,((l.length:Int),((i:Int),()))),((),((l[i],()),(ofBs (pre l i++([60]++l[i].2.1)++zej l[i].2.2.2.1),()))))):=by
     rintro _ rfl
     refine zrk (σ:=Unit) (fun j _=>((l,((l.length:Int),((i:Int),(l[i].2.2.2.1,((l[i].2.2.2.1.length:Int),((j:Int),())))))),((),((l[i],()),(ofBs (pre l i++([60]++l[i].2.1)++zej (l[i].2.2.2.1.take j)),()))))) (fun j _=>True) l[i].2.2.2.1.length () (by simp [zej]) trivial (by omega) ?_
     rintro j _ hj _
     have lt:(zej (l[i].2.2.2.1.take j)).length≤130000*j:=by
      have:=zms (l[i].2.2.2.1.take j) (fun a ha=>h4 a (List.mem_of_mem_take ha))
      simp only [List.length_take]at this
      omega
     by_cases hj':j<l[i].2.2.2.1.length
     ·have c0:decide ((j:Int)<(l[i].2.2.2.1.length:Int))=true:=decide_eq_true (by omega)
      have w:IntKind.wrap .i64 ((j:Int)+1)=((j+1:Nat):Int):=by rw [jm (by omega) (by omega)];omega
      obtain⟨a1,a2⟩:=h4 _ (List.getElem_mem hj')
      have el:=zn4 l[i].2.2.2.1[j].2
      have q:=zuv N l[i].2.2.2.1[j].2 (by omega) (by omega)
      have g2:zx (([32]:Bs).length+l[i].2.2.2.1[j].1.length)=true:=sf (by decide) (by omega)
      have g3:zx (([32]++l[i].2.2.2.1[j].1).length+([61,34]:Bs).length)=true:=sf (by simp;omega) (by simp)
      have g4:zx (([32]++l[i].2.2.2.1[j].1 ++ [61,34]).length+(enc l[i].2.2.2.1[j].2).length)=true:=sf (by simp;omega) (by omega)
      have g5:zx (([32]++l[i].2.2.2.1[j].1 ++ [61,34]++enc l[i].2.2.2.1[j].2).length+([34]:Bs).length)=true:=sf (by simp;omega) (by simp)
      have g6:=WSd (Ev.upto N) ([32]++l[i].2.2.2.1[j].1 ++ [61,34]++enc l[i].2.2.2.1[j].2 ++ [34]) (pre l i++([60]++l[i].2.1)++zej (l[i].2.2.2.1.take j)) (by simp;omega)
      simp -implicitDefEqProofs only [c0,cond_true,jv hj',Option.bind_some,q,g2,g3,g4,g5,g6,w]
      exact⟨_,rfl,hj',(),by rw [z04 hj'];simp only [z5s,List.append_assoc],trivial⟩
     ·have c0:decide ((j:Int)<(l[i].2.2.2.1.length:Int))=false:=decide_eq_false (by omega)
      have ht:l[i].2.2.2.1.take j=l[i].2.2.2.1:=List.take_of_length_le (by omega)
      simp -implicitDefEqProofs only [c0,cond_false,ht]
      exact⟨_,rfl,rfl⟩
    obtain⟨_,e,rfl⟩:=loop _ rfl
    simp -implicitDefEqProofs only [e,Option.bind_some]
    cases hc:l[i].2.2.2.2 with
    | true=>
     have g2:=WSd (Ev.upto N) [47] (pre l i++([60]++l[i].2.1)++zej l[i].2.2.2.1) (by simp;omega)
     have g3:=WSd (Ev.upto N) [62] (pre l i++([60]++l[i].2.1)++zej l[i].2.2.2.1 ++ [47]) (by simp;omega)
     obtain⟨_,e,rfl⟩:=fin (pre l i++([60]++l[i].2.1)++zej l[i].2.2.2.1 ++ [47] ++ [62]) (by rw [tp];unfold zky;rw [hc];simp only [cond_true,List.append_assoc])
     rw [k2]at e
     simp -implicitDefEqProofs only [cond_true,hc,g2,g3,Option.bind_some,k2,e,w]
     exact⟨_,rfl,hi',(),rfl,trivial⟩
    | false=>
     have g3:=WSd (Ev.upto N) [62] (pre l i++([60]++l[i].2.1)++zej l[i].2.2.2.1) (by simp;omega)
     obtain⟨_,e,rfl⟩:=fin (pre l i++([60]++l[i].2.1)++zej l[i].2.2.2.1 ++ [62]) (by rw [tp];unfold zky;rw [hc];simp only [cond_false,List.append_assoc,List.nil_append])
     rw [k2]at e
     simp -implicitDefEqProofs only [cond_false,hc,g3,Option.bind_some,k2,e,w]
     exact⟨_,rfl,hi',(),rfl,trivial⟩
   | false=>
    simp -implicitDefEqProofs only [cond_false]
    rw [k2]at fin
    cases k3:(l[i].1==(3:Int)) with
    | true=>
     have tp:∀c,tokP c l[i] = [60,47]++l[i].2.1 ++ [62]:=fun c=>by unfold tokP;rw [k1,k2,k3];rfl
     have g1:zx (([60,47]:Bs).length+l[i].2.1.length)=true:=sf (by decide) (by omega)
     have g2:zx (([60,47]++l[i].2.1).length+([62]:Bs).length)=true:=sf (by simp;omega) (by simp)
     have g3:=WSc (Ev.upto N) ([60,47]++l[i].2.1 ++ [62]) (pre l i) (by simp;omega)
     obtain⟨_,e,rfl⟩:=fin (pre l i++([60,47]++l[i].2.1 ++ [62])) (by rw [tp])
     simp -implicitDefEqProofs only [cond_true,g1,g2,g3,Option.bind_some,k2,e,w]
     exact⟨_,rfl,hi',(),rfl,trivial⟩
    | false=>
     simp -implicitDefEqProofs only [cond_false]
     cases k4:(l[i].1==(4:Int)) with
     | true=>
      have tp:∀c,tokP c l[i] = [60,33,45,45]++l[i].2.2.1 ++ [45,45,62]:=fun c=>by unfold tokP;rw [k1,k2,k3,k4];rfl
      have g1:zx (([60,33,45,45]:Bs).length+l[i].2.2.1.length)=true:=sf (by decide) (by omega)
      have g2:zx (([60,33,45,45]++l[i].2.2.1).length+([45,45,62]:Bs).length)=true:=sf (by simp;omega) (by simp)
      have g3:=WSc (Ev.upto N) ([60,33,45,45]++l[i].2.2.1 ++ [45,45,62]) (pre l i) (by simp;omega)
      obtain⟨_,e,rfl⟩:=fin (pre l i++([60,33,45,45]++l[i].2.2.1 ++ [45,45,62])) (by rw [tp])
      simp -implicitDefEqProofs only [cond_true,g1,g2,g3,Option.bind_some,k2,e,w]
      exact⟨_,rfl,hi',(),rfl,trivial⟩
     | false=>
      simp -implicitDefEqProofs only [cond_false]
      cases k5:(l[i].1==(5:Int)) with
      | true=>
       have tp:∀c,tokP c l[i] = [60,33,100,111,99,116,121,112,101,32]++l[i].2.2.1 ++ [62]:=fun c=>by unfold tokP;rw [k1,k2,k3,k4,k5];rfl
       have g1:zx (([60,33,100,111,99,116,121,112,101,32]:Bs).length+l[i].2.2.1.length)=true:=sf (by decide) (by omega)
       have g2:zx (([60,33,100,111,99,116,121,112,101,32]++l[i].2.2.1).length+([62]:Bs).length)=true:=sf (by simp;omega) (by simp)
       have g3:=WSc (Ev.upto N) ([60,33,100,111,99,116,121,112,101,32]++l[i].2.2.1 ++ [62]) (pre l i) (by simp;omega)
       obtain⟨_,e,rfl⟩:=fin (pre l i++([60,33,100,111,99,116,121,112,101,32]++l[i].2.2.1 ++ [62])) (by rw [tp])
       simp -implicitDefEqProofs only [cond_true,g1,g2,g3,Option.bind_some,k2,e,w]
       exact⟨_,rfl,hi',(),rfl,trivial⟩
      | false=>
       have tp:∀c,tokP c l[i] = []:=fun c=>by unfold tokP;rw [k1,k2,k3,k4,k5];rfl
       obtain⟨_,e,rfl⟩:=fin (pre l i) (by rw [tp,List.append_nil])
       simp -implicitDefEqProofs only [cond_false,Option.bind_some,k2,e,w]
       exact⟨_,rfl,hi',(),rfl,trivial⟩
 ·have c0:decide ((i:Int)<(l.length:Int))=false:=decide_eq_false (by omega)
  obtain rfl:i=l.length:=by omega
  simp -implicitDefEqProofs only [c0,cond_false]
  refine⟨_,rfl,?_⟩
  have q:=z9v (Ev.upto N) (ofBs (pre l l.length))
  simp -implicitDefEqProofs only [q,Option.bind_some,zjk]
  exact⟨_,rfl,rfl⟩
abbrev At:=Bs×Bs
abbrev Nd:=Int×(Bs×(Bs×((List At)×(Int×((List Int)×(Bool×Bool))))))
def zbz {ε σ β:Type} (g:Nat→ε→σ→σ⊕β) (fin:σ→β):Nat→List ε→σ→β
 | _,[],s=>fin s
 | i,x::l,s=>match g i x s with
  | .inl s'=>zbz g fin (i+1) l s'
  | .inr b=>b
theorem z9x {α β σ ε:Type} {f:α→Option (α⊕β)} {l:List ε} {N:Nat} (st:Nat→σ→α) (g:Nat→ε→σ→σ⊕β) (fin:σ→β) (I:Nat→σ→Prop) (s0:σ) (h0:I 0 s0) (hN:l.length<N)
  (hs:∀i s (hi:i<l.length),I i s→f (st i s)=some (match g i l[i] s with | .inl s'=> .inl (st (i+1) s') | .inr b=> .inr b)∧∀s',g i l[i] s = .inl s'→I (i+1) s')
  (he:∀s,I l.length s→f (st l.length s)=some (.inr (fin s))):(Ev.upto N).it f (st 0 s0)=some (zbz g fin 0 l s0):=by
 show bp f N (st 0 s0)=_
 have key:∀(d i:Nat) (s:σ) (N:Nat),i+d=l.length→d<N→I i s→bp f N (st i s)=some (zbz g fin i (l.drop i) s):=by
  intro d
  induction d with
  | zero=>
   intro i s N e hN hi
   have:i=l.length:=by omega
   subst this
   cases N with
   | zero=>omega
   | succ N=>
    unfold bp
    rw [he s hi,List.drop_length]
    rfl
  | succ d ih=>
   intro i s N e hN hi
   have hlt:i<l.length:=by omega
   obtain⟨h1,h2⟩:=hs i s hlt hi
   cases N with
   | zero=>omega
   | succ N=>
    unfold bp
    rw [h1,List.drop_eq_getElem_cons hlt]
    unfold zbz
    cases hg:g i l[i] s with
    | inr b=>rfl
    | inl s'=>exact ih (i+1) s' N (by omega) (by omega) (h2 s' hg)
 have:=key l.length 0 s0 N (by omega) hN h0
 simpa using this
theorem zbp {α β σ ε γ:Type} {f:α→Option (α⊕β)} {a0:α} {k:β→Option γ} {r:Option γ} {l:List ε} {N:Nat} (st:Nat→σ→α) (g:Nat→ε→σ→σ⊕β) (fin:σ→β) (I:Nat→σ→Prop) (s0:σ) (ha:a0=st 0 s0) (h0:I 0 s0) (hN:l.length<N)
  (hs:∀i s (hi:i<l.length),I i s→f (st i s)=some (match g i l[i] s with | .inl s'=> .inl (st (i+1) s') | .inr b=> .inr b)∧∀s',g i l[i] s = .inl s'→I (i+1) s')
  (he:∀s,I l.length s→f (st l.length s)=some (.inr (fin s))) (hr:k (zbz g fin 0 l s0)=r):((Ev.upto N).it f a0).bind k=r:=by
 rw [ha,z9x st g fin I s0 h0 hN hs he]
 exact hr
theorem zgj {i:Nat} (h:i<1000000):IntKind.wrap .i64 ((i:Int)+1)=((i+1:Nat):Int):=by
 rw [jm (by omega) (by omega)];rfl
theorem zek (i n:Nat):decide ((i:Int)<(n:Int))=decide (i<n):=by
 by_cases h:i<n
 ·rw [decide_eq_true h,decide_eq_true (by omega)]
 ·rw [decide_eq_false h,decide_eq_false (by omega)]
theorem zuw {ε β:Type} (g:Nat→ε→Unit→Unit⊕β) (fin:Unit→β):∀(l:List ε) (i:Nat),(∀j (hj:j<l.length),g (i+j) l[j] () = .inl ())→zbz g fin i l ()=fin ()
 | [],_,_=>rfl
 | x::l,i,h=>by
  unfold zbz
  have h0:=h 0 (by simp)
  simp only [Nat.add_zero,List.getElem_cons_zero]at h0
  rw [h0]
  exact zuw g fin l (i+1) fun j hj=>by
   have:=h (j+1) (by simpa using hj)
   rw [show i+1+j=i+(j+1) by omega]
   simpa using this
def Sm (d:List Nd):Prop:=d.length≤4000∧∀n,n∈d→n.2.2.2.1.length≤4000∧n.2.2.2.2.2.1.length≤4000
def NdOk (n:Nd):Prop:=n.2.1.length≤300∧n.2.2.1.length≤3000∧n.2.2.2.1.length≤40∧n.2.2.2.2.2.1.length≤400∧∀a,a∈n.2.2.2.1→a.1.length≤300∧a.2.length≤2000
theorem z9y (n:Nat) (k:Nat):decide ((n:Int)>(k:Int))=decide (n>k):=by
 by_cases h:n>k
 ·rw [decide_eq_true h,decide_eq_true (by omega)]
 ·rw [decide_eq_false h,decide_eq_false (by omega)]
def z05 (d:List Nd):Prop:=d.length≤310∧∀n,n∈d→NdOk n
theorem z05.sm {d:List Nd} (h:z05 d):Sm d:=⟨by have:=h.1;omega,fun n hn=>by have:=h.2 n hn;unfold NdOk at this;omega⟩
theorem zzu {n k:Nat} (h:n≤10000) (hk:k≤1000):fits n k=true:=zc7 (by have:=Nat.mul_le_mul h hk;omega)
def mayB (n:Nd):Bool:=
 if n.1=2 then !(n.2.1 == [])&&(n.2.2.1 == [])&&decide (n.2.2.2.1.length≤30)&&decide ((n.2.2.2.1.map (·.1)).Nodup)
 else decide (1≤n.1)&&decide (n.1≤4)&&(n.2.1 == [])&&(n.2.2.2.1.length==0) && !n.2.2.2.2.2.2.1 && !n.2.2.2.2.2.2.2&&(n.1 != 1||n.2.2.1 == [])
def z06 (acc:List (Bs×Bool)) (l:List At):List (Bs×Bool):=l.foldl (fun s x=>mput (fun (a b:Bs)=>a==b) x.1 true s) acc
theorem zux (k:Bs):∀(l:List (Bs×Bool)),(k∈l.map (·.1)→(mput (fun (a b:Bs)=>a==b) k true l).map (·.1)=l.map (·.1))∧(k∉l.map (·.1)→(mput (fun (a b:Bs)=>a==b) k true l).map (·.1)=l.map (·.1) ++ [k])
 | []=>⟨fun h=>by simp at h,fun _=>rfl⟩
 | p::l=>by
  have ih:=zux k l
  cases hk:k==p.1 with
  | true=>
   have e:k=p.1:=by simpa using hk
   simp only [mput,hk,cond_true]
   refine⟨fun _=>by simp [e],fun h=>absurd (by simp [e]) h⟩
  | false=>
   have e:¬k=p.1:=by simpa using hk
   simp only [mput,hk,cond_false]
   refine⟨fun h=> ?_,fun h=> ?_⟩
   ·have:k∈l.map (·.1):=by simpa [e] using h
    simp only [List.map_cons,ih.1 this]
   ·have:k∉l.map (·.1):=fun hx=>h (by simp only [List.map_cons,List.mem_cons];exact .inr hx)
    simp only [List.map_cons,ih.2 this,List.cons_append]
theorem zzv:∀(l:List At) (acc:List (Bs×Bool)),(z06 acc l).length≤acc.length+l.length∧((z06 acc l).length=acc.length+l.length↔(l.map (·.1)).Nodup∧∀x,x∈l.map (·.1)→x∉acc.map (·.1))
 | [],acc=>by simp [z06]
 | a::l,acc=>by
  have hk:=zux a.1 acc
  have ih:=zzv l (mput (fun (a b:Bs)=>a==b) a.1 true acc)
  have e1:z06 acc (a::l)=z06 (mput (fun (a b:Bs)=>a==b) a.1 true acc) l:=rfl
  rw [e1]
  by_cases hm:a.1∈acc.map (·.1)
  ·have hl:(mput (fun (a b:Bs)=>a==b) a.1 true acc).length=acc.length:=by have:=congrArg List.length (hk.1 hm);simpa using this
   rw [hl]at ih
   refine⟨by simp only [List.length_cons];omega,⟨fun h=> ?_,fun h=> ?_⟩⟩
   ·simp only [List.length_cons]at h;have:=ih.1;omega
   ·exact absurd hm (h.2 _ (by simp))
  ·have hl:(mput (fun (a b:Bs)=>a==b) a.1 true acc).length=acc.length+1:=by have:=congrArg List.length (hk.2 hm);simpa using this
   rw [hl,hk.2 hm]at ih
   refine⟨by simp only [List.length_cons];omega,?_⟩
   rw [List.length_cons,show acc.length+(l.length+1)=acc.length+1+l.length by omega,ih.2]
   simp only [List.map_cons,List.map_nil,List.nodup_cons,List.mem_append,List.mem_singleton,not_or,List.mem_cons,List.not_mem_nil,or_false]
   constructor
   ·rintro⟨h1,h2⟩
    refine⟨⟨fun hx=>(h2 _ hx).2 rfl,h1⟩,fun x hx=> ?_⟩
    rcases hx with rfl | hx
    ·exact hm
    ·exact(h2 x hx).1
   ·rintro⟨⟨h1,h2⟩,h3⟩
    exact⟨h2,fun x hx=>⟨h3 x (.inr hx),fun e=>h1 (e▸hx)⟩⟩
theorem z07 (l:List At):((((z06 [] l).length:Nat):Int)==(l.length:Int))=decide ((l.map (·.1)).Nodup):=by
 have:=(zzv l []).2
 simp only [List.length_nil,Nat.zero_add,List.map_nil,List.not_mem_nil,not_false_eq_true,implies_true,and_true]at this
 rw [Bool.eq_iff_iff,beq_iff_eq,decide_eq_true_eq,←this]
 omega
theorem zuy {β:Type} (fin:List (Bs×Bool)→β):∀(l:List At) (s:List (Bs×Bool)) (i:Nat),zbz (fun (_:Nat) (x:At) (s:List (Bs×Bool))=>(.inl (mput (fun (a b:Bs)=>a==b) x.1 true s):List (Bs×Bool)⊕β)) fin i l s=fin (z06 s l)
 | [],s,_=>rfl
 | x::l,s,i=>by
  unfold zbz
  simp only
  rw [zuy fin l _ (i+1)]
  rfl
theorem z9z (k:Bs) (s:List (Bs×Bool)):(mput (fun (a b:Bs)=>a==b) k true s).length≤s.length+1:=by
 have:=zux k s
 by_cases h:k∈s.map (·.1)
 ·have:=congrArg List.length (this.1 h);simp at this;omega
 ·have:=congrArg List.length (this.2 h);simp at this;omega
theorem z8f (n:Nd) (h:n.2.2.2.1.length≤4000):zj9 (Ev.upto 500000000) ((n,()),())=some ((mayB n,()),()):=by
 unfold zj9 mayB
 by_cases hk:n.1=2
 ·simp only [hk,bne_self_eq_false,cond_false,if_true]
  refine zbp (l:=n.2.2.2.1) (σ:=List (Bs×Bool)) (fun i s=>(((n.2.2.2.1,((n.2.2.2.1.length:Int),((i:Int),())))),((n,()),(s,())))) (fun _ x s=> .inl (mput (fun (a b:Bs)=>a==b) x.1 true s)) (fun s=>((),((n,()),(s,())))) (fun i s=>s.length≤i) [] rfl (Nat.le_refl _) (by omega) (fun i s hi hl=>⟨?_,fun s' e=> ?_⟩) (fun s _=> ?_) ?_
  ·have hm:s.length<maxB:=by simp only [maxB];omega
   simp only [zek,decide_eq_true hi,cond_true,jv hi,Option.bind_some,decide_eq_true hm,zgj (show i<1000000 by omega)]
  ·simp only [Sum.inl.injEq]at e
   subst e
   have:=z9z n.2.2.2.1[i].1 s
   omega
  ·simp only [zek,Nat.lt_irrefl,decide_false,cond_false]
  ·rw [zuy]
   simp only [z07,show (30:Int)=((30:Nat):Int) from rfl,Int.ofNat_le]
   cases (n.2.1 == [])<;>cases (n.2.2.1 == [])<;>by_cases h3:n.2.2.2.1.length≤30<;>simp [h3]
 ·have h1:(n.1 != 2)=true:=by simpa using hk
  simp only [h1,cond_true,if_neg hk]
  have h0:((n.2.2.2.1.length:Int)==0)=(n.2.2.2.1.length==0):=by rw [Bool.eq_iff_iff];simp
  simp only [h0,ge_iff_le]
  by_cases h2:1≤n.1<;>by_cases h3:n.1≤4<;>cases (n.2.1 == [])<;>cases (n.2.2.2.1.length==0)<;>cases n.2.2.2.2.2.2.1<;>cases n.2.2.2.2.2.2.2<;>cases (n.1 != 1)<;>simp [h2,h3]
def inner (l:List At) (a:Bs):Nat→Bool
 | 0=>false
 | i+1=>inner l a i||(match l[i]? with | some x=>a==x.1 | none=>false)
def za2 (n:Nd):Bool:=n.1==1||n.1==2
theorem z2e (n:Nd):zb0 (Ev.upto 500000000) ((n,()),())=some ((za2 n,()),()):=by
 unfold zb0 za2
 cases (n.1==1)<;>simp
abbrev zm (n:Nd):List Int:=n.2.2.2.2.2.1
abbrev gf (n:Nd):Int:=n.2.2.2.2.1
def pr (d:List Nd) (i:Int):Int:=match idx d i with
 | some n=>gf n
 | none=> -1
def vc (d:List Nd):List Int:=d.flatMap zm
def up (d:List Nd):Nat→Int→Int
 | 0,x=>x
 | j+1,x=>up d j (pr d x)
structure xf (d:List Nd):Prop where
 len:d.length≤300
 pos:0<d.length
 may:∀n,n∈d→mayB n=true
 root:∀(i:Nat) (n:Nd),d[i]? = some n→(n.1=1↔i=0)
 par0:pr d 0 = -1
 holds:∀n,n∈d→zm n ≠ []→za2 n=true
 rng:∀n,n∈d→∀k,k∈zm n→1≤k∧k<d.length
 nodup:(vc d).Nodup
 back:∀(i:Nat) (n:Nd),d[i]? = some n→∀k,k∈zm n→pr d k=(i:Int)
 laid:∀(i:Nat) (n:Nd),d[i]? = some n→gf n ≠ -1→(i:Int)∈vc d
 ends:∀(i:Nat) (n:Nd),d[i]? = some n→∃j,j≤d.length∧up d j (gf n) = -1
theorem qy {α:Type} {l:List α} {i:Int} {x:α} (h:idx l i=some x):0≤i∧i<l.length∧l[i.toNat]? = some x:=by
 unfold idx at h
 split at h
 ·rename_i h0
  have:=(List.getElem?_eq_some_iff.1 h).1
  exact⟨h0,by omega,h⟩
 ·cases h
theorem zmd {α:Type} {l:List α} {i:Int} (h0:0≤i) (h:i<l.length):∃x,idx l i=some x∧l[i.toNat]? = some x:=by
 have hi:i.toNat<l.length:=by omega
 exact⟨l[i.toNat],by unfold idx;rw [if_pos h0,List.getElem?_eq_getElem hi],List.getElem?_eq_getElem hi⟩
theorem zbk {d:List Nd} {i:Nat} {n:Nd} (h:d[i]? = some n):pr d (i:Int)=gf n:=by
 unfold pr idx
 rw [if_pos (by omega),Int.toNat_natCast,h]
theorem ybk {d:List Nd}:pr d (-1) = -1:=rfl
theorem zwv {d:List Nd}:∀j,up d j (-1) = -1
 | 0=>rfl
 | j+1=>zwv j
def lay (n:Nat) (K:List Int):List Bool:=(List.range n).map fun j:Nat=>decide ((j:Int)∈K)
theorem zn5 (n:Nat) (K:List Int):(lay n K).length=n:=by simp [lay]
theorem zn6 {n:Nat} {K:List Int} {i:Nat} (h:i<n):(lay n K)[i]? = some (decide ((i:Int)∈K)):=by simp [lay,h]
theorem z90 (n:Nat):lay n []=List.replicate n false:=by
 apply List.ext_getElem?
 intro i
 by_cases h:i<n
 ·rw [zn6 h];simp [h]
 ·rw [List.getElem?_eq_none (by rw [zn5];omega),List.getElem?_eq_none (by simp;omega)]
theorem z91 {n:Nat} {K:List Int} {i:Nat} (h:i<n):(lay n K).set i true=lay n (K ++ [(i:Int)]):=by
 apply List.ext_getElem?
 intro j
 rw [List.getElem?_set,zn5]
 by_cases e:i=j
 ·subst e
  rw [if_pos rfl,if_pos h,zn6 h]
  simp
 ·rw [if_neg e]
  by_cases hj:j<n
  ·rw [zn6 hj,zn6 hj]
   have:((j:Int)∈K ++ [(i:Int)])↔(j:Int)∈K:=by
    simp only [List.mem_append,List.mem_singleton]
    constructor
    ·rintro(h | h)
     ·exact h
     ·omega
    ·exact .inl
   simp only [this]
  ·rw [List.getElem?_eq_none (by rw [zn5];omega),List.getElem?_eq_none (by rw [zn5];omega)]
def zme (d:List Nd) (i:Int):List Int→List Int→Bool
 | _,[]=>true
 | K,k::r=>(decide (1≤k)&&decide (k<(d.length:Int)) && !decide (k∈K)&&(pr d k==i))&&zme d i (K ++ [k]) r
def zuz (d:List Nd) (i:Nat) (n:Nd) (K:List Int):Bool:=mayB n && !(decide (i>0)&&n.1==1)&&(zm n == []||za2 n)&&zme d i K (zm n)
def zu0 (d:List Nd):Nat→List Int→List Nd→Bool
 | _,_,[]=>true
 | i,K,n::r=>zuz d i n K&&zu0 d (i+1) (K++zm n) r
theorem zqz (d:List Nd) (i:Int):∀(l K:List Int),K.Nodup→(zme d i K l=true↔(∀k,k∈l→1≤k∧k<d.length∧pr d k=i)∧(K++l).Nodup)
 | [],K,hK=>by simp [zme,hK]
 | k::l,K,hK=>by
  simp only [zme,Bool.and_eq_true,decide_eq_true_eq,Bool.not_eq_true',decide_eq_false_iff_not,beq_iff_eq]
  have e:K++k::l=(K ++ [k])++l:=by simp
  rw [e]
  constructor
  ·rintro⟨⟨⟨⟨h1,h2⟩,h3⟩,h4⟩,h5⟩
   have hK':(K ++ [k]).Nodup:=by
    rw [List.nodup_append]
    exact⟨hK,by simp,fun a ha b hb=>by simp at hb;rintro rfl;exact h3 (hb▸ha)⟩
   obtain⟨h6,h7⟩:=(zqz d i l (K ++ [k]) hK').1 h5
   refine⟨fun x hx=> ?_,h7⟩
   rcases List.mem_cons.1 hx with rfl | hx
   ·exact⟨h1,h2,h4⟩
   ·exact h6 x hx
  ·rintro⟨h1,h2⟩
   have hK':(K ++ [k]).Nodup:=(List.nodup_append.1 h2).1
   have h3:k∉K:=fun hx=>(List.nodup_append.1 hK').2.2 k hx k (by simp) rfl
   obtain⟨h4,h5,h6⟩:=h1 k (List.mem_cons_self ..)
   exact⟨⟨⟨⟨h4,h5⟩,h3⟩,h6⟩,(zqz d i l (K ++ [k]) hK').2 ⟨fun x hx=>h1 x (List.mem_cons_of_mem _ hx),h2⟩⟩
theorem zpm (d:List Nd):∀(l:List Nd) (i:Nat) (K:List Int),K.Nodup→(zu0 d i K l=true ↔
  (∀j n,l[j]? = some n→mayB n=true∧(i+j>0→n.1≠1)∧(zm n ≠ []→za2 n=true)∧∀k,k∈zm n→1≤k∧k<d.length∧pr d k=((i+j:Nat):Int))∧(K++l.flatMap zm).Nodup)
 | [],i,K,hK=>by simp [zu0,hK]
 | n::l,i,K,hK=>by
  simp only [zu0,zuz,Bool.and_eq_true]
  rw [zqz d i (zm n) K hK]
  have e:K++(n::l).flatMap zm=(K++zm n)++l.flatMap zm:=by simp
  rw [e]
  constructor
  ·rintro⟨⟨⟨⟨h1,h2⟩,h3⟩,h4,h5⟩,h6⟩
   obtain⟨h7,h8⟩:=(zpm d l (i+1) (K++zm n) h5).1 h6
   refine⟨fun j m hj=> ?_,h8⟩
   cases j with
   | zero=>
    simp only [List.getElem?_cons_zero,Option.some.injEq]at hj
    subst hj
    refine⟨h1,fun hi hk=> ?_,fun hne=> ?_,fun k hk=> ?_⟩
    ·simp only [Nat.add_zero]at hi
     simp [hk,hi]at h2
    ·cases hh:zm n with
     | nil=>exact absurd hh hne
     | cons a b=>simpa [hh] using h3
    ·exact h4 k hk
   | succ j=>
    have:=h7 j m (by simpa using hj)
    rw [show i+(j+1)=i+1+j by omega]
    exact this
  ·rintro⟨h1,h2⟩
   obtain⟨g1,g2,g3,g4⟩:=h1 0 n rfl
   have h5:(K++zm n).Nodup:=(List.nodup_append.1 h2).1
   refine⟨⟨⟨⟨g1,?_⟩,?_⟩,g4,h5⟩,(zpm d l (i+1) (K++zm n) h5).2 ⟨fun j m hj=> ?_,h2⟩⟩
   ·by_cases hi:i>0
    ·have:=g2 (by omega);simp [hi,this]
    ·simp [hi]
   ·cases hh:zm n with
    | nil=>simp
    | cons a b=>simp [g3 (by rw [hh];simp)]
   ·have:=h1 (j+1) m (by simpa using hj)
    rw [show i+1+j=i+(j+1) by omega]
    exact this
theorem z2f {ε σ β:Type} (ok:Nat→ε→σ→Bool) (nx:Nat→ε→σ→σ) (bad:β) (fin:σ→β):∀(l:List ε) (i:Nat) (s:σ),
  zbz (fun i x s=>if ok i x s then (.inl (nx i x s):σ⊕β) else .inr bad) fin i l s=match l with
   | []=>fin s
   | x::r=>if ok i x s then zbz (fun i x s=>if ok i x s then (.inl (nx i x s):σ⊕β) else .inr bad) fin (i+1) r (nx i x s) else bad
 | [],_,_=>rfl
 | x::l,i,s=>by
  show (match (if ok i x s then (.inl (nx i x s):σ⊕β) else .inr bad) with | .inl s'=>_ | .inr b=>b)=_
  simp only
  cases ok i x s<;>rfl
theorem z2g {β:Type} (d:List Nd) (i:Int) (bad:β) (fin:List Int→β):∀(l:List Int) (j:Nat) (K:List Int),
  zbz (fun (_:Nat) (k:Int) (K:List Int)=>if (decide (1≤k)&&decide (k<(d.length:Int)) && !decide (k∈K)&&(pr d k==i)) then (.inl (K ++ [k]):List Int⊕β) else .inr bad) fin j l K=if zme d i K l then fin (K++l) else bad
 | [],j,K=>by simp [zbz,zme]
 | k::l,j,K=>by
  rw [z2f (fun _ k K=>(decide (1≤k)&&decide (k<(d.length:Int)) && !decide (k∈K)&&(pr d k==i))) (fun _ k K=>K ++ [k])]
  by_cases hc:(decide (1≤k)&&decide (k<(d.length:Int)) && !decide (k∈K)&&(pr d k==i))=true
  ·have e2:zme d i K (k::l)=zme d i (K ++ [k]) l:=by show (_&&_)=_;rw [hc,Bool.true_and]
   simp only [if_pos hc,e2,z2g d i bad fin l (j+1) (K ++ [k])]
   simp
  ·have e2:zme d i K (k::l)=false:=by show (_&&_)=_;rw [Bool.eq_false_iff.2 hc,Bool.false_and]
   simp only [if_neg hc,e2]
   simp
theorem zzw {β:Type} (d:List Nd) (bad:β) (fin:List Int→β):∀(l:List Nd) (i:Nat) (K:List Int),
  zbz (fun (i:Nat) (n:Nd) (K:List Int)=>if zuz d i n K then (.inl (K++zm n):List Int⊕β) else .inr bad) fin i l K=if zu0 d i K l then fin (K++l.flatMap zm) else bad
 | [],i,K=>by simp [zbz,zu0]
 | n::l,i,K=>by
  rw [z2f (fun i n K=>zuz d i n K) (fun i n K=>K++zm n)]
  by_cases hc:zuz d i n K=true
  ·have e2:zu0 d i K (n::l)=zu0 d (i+1) (K++zm n) l:=by show (_&&_)=_;rw [hc,Bool.true_and]
   simp only [if_pos hc,e2,zzw d bad fin l (i+1) (K++zm n)]
   simp
  ·have e2:zu0 d i K (n::l)=false:=by show (_&&_)=_;rw [Bool.eq_false_iff.2 hc,Bool.false_and]
   simp only [if_neg hc,e2]
   simp
theorem zn7 {ε β:Type} (p:Nat→ε→Bool) (b e:β):∀(l:List ε) (i:Nat),(∃j x,l[j]? = some x∧p (i+j) x=true)∧zbz (fun (i:Nat) (x:ε) (_:Unit)=>if p i x then (.inr b:Unit⊕β) else .inl ()) (fun _=>e) i l ()=b ∨
  (∀j x,l[j]? = some x→p (i+j) x=false)∧zbz (fun (i:Nat) (x:ε) (_:Unit)=>if p i x then (.inr b:Unit⊕β) else .inl ()) (fun _=>e) i l ()=e
 | [],i=> .inr ⟨fun j x h=>by simp at h,rfl⟩
 | y::l,i=>by
  cases hp:p i y with
  | true=>exact .inl ⟨⟨0,y,rfl,hp⟩,by unfold zbz;simp [hp]⟩
  | false=>
   rcases zn7 p b e l (i+1) with ⟨⟨j,x,h1,h2⟩,h3⟩ | ⟨h1,h3⟩
   ·refine .inl ⟨⟨j+1,x,by simpa using h1,by rw [show i+(j+1)=i+1+j by omega];exact h2⟩,?_⟩
    unfold zbz
    simp only [hp,Bool.false_eq_true,if_false]
    exact h3
   ·refine .inr ⟨fun j x hj=> ?_,?_⟩
    ·cases j with
     | zero=>simp only [List.getElem?_cons_zero,Option.some.injEq]at hj;subst hj;exact hp
     | succ j=>rw [show i+(j+1)=i+1+j by omega];exact h1 j x (by simpa using hj)
    ·unfold zbz
     simp only [hp,Bool.false_eq_true,if_false]
     exact h3
open Classical in
noncomputable def chk (d:List Nd):Int:=if d.length>300 then 2 else if xf d then 0 else 171
theorem ybl {α β:Type} {f:α→Option (α⊕β)} (d:List Nd) (st:Nat→Int→α) (ok bad:β) (cl:∀x:Int,0≤x→x<d.length→pr d x = -1∨(0≤pr d x∧pr d x<d.length))
  (h0:∀s,f (st s (-1))=some (.inr ok)) (h1:∀(s:Nat) (x:Int),0≤x→x<d.length→s+1>d.length→s≤d.length→f (st s x)=some (.inr bad)) (h2:∀(s:Nat) (x:Int),0≤x→x<d.length→s+1≤d.length→f (st s x)=some (.inl (st (s+1) (pr d x)))) :
  ∀(m s:Nat) (x:Int) (N:Nat),s+m=d.length→m+1<N→(x = -1∨(0≤x∧x<d.length))→((∃j,j≤m∧up d j x = -1)∧bp f N (st s x)=some ok)∨((¬ ∃j,j≤m∧up d j x = -1)∧bp f N (st s x)=some bad):=by
 intro m
 induction m with
 | zero=>
  intro s x N hs hN hx
  obtain⟨N,rfl⟩:∃M,N=M+1:=⟨N-1,by omega⟩
  unfold bp
  rcases hx with rfl | ⟨hx0,hx1⟩
  ·exact .inl ⟨⟨0,Nat.le_refl _,rfl⟩,by rw [h0];rfl⟩
  ·refine .inr ⟨?_,by rw [h1 s x hx0 hx1 (by omega) (by omega)];rfl⟩
   rintro⟨j,hj,hu⟩
   obtain rfl:j=0:=by omega
   simp only [up]at hu
   omega
 | succ m ih=>
  intro s x N hs hN hx
  obtain⟨N,rfl⟩:∃M,N=M+1:=⟨N-1,by omega⟩
  unfold bp
  rcases hx with rfl | ⟨hx0,hx1⟩
  ·exact .inl ⟨⟨0,Nat.zero_le _,rfl⟩,by rw [h0];rfl⟩
  ·rw [h2 s x hx0 hx1 (by omega)]
   simp only [Option.bind_some]
   rcases ih (s+1) (pr d x) N (by omega) (by omega) (cl x hx0 hx1) with ⟨⟨j,h3,h4⟩,h5⟩ | ⟨h3,h5⟩
   ·exact .inl ⟨⟨j+1,by omega,h4⟩,h5⟩
   ·refine .inr ⟨?_,h5⟩
    rintro⟨j,hj,hu⟩
    cases j with
    | zero=>simp only [up]at hu;omega
    | succ j=>exact h3 ⟨j,by omega,hu⟩
theorem ybm (d:List Nd) (k:Int):decide (k≥(d.length:Int)) = !decide (k<(d.length:Int)):=by
 by_cases h:k<(d.length:Int)
 ·rw [decide_eq_true h,decide_eq_false (by omega)];rfl
 ·rw [decide_eq_false h,decide_eq_true (by omega)];rfl
theorem ybn (k:Int):decide (k<1) = !decide (1≤k):=by
 by_cases h:1≤k
 ·rw [decide_eq_true h,decide_eq_false (by omega)];rfl
 ·rw [decide_eq_false h,decide_eq_true (by omega)];rfl
theorem ybo (i:Nat):decide ((i:Int)>0)=decide (i>0):=by
 by_cases h:i>0
 ·rw [decide_eq_true h,decide_eq_true (by omega)]
 ·rw [decide_eq_false h,decide_eq_false (by omega)]
theorem ycr (l:List Int):decide (l.length>0) = !(l == []):=by
 cases l with
 | nil=>rfl
 | cons a l=>simp
theorem z5v (d:List Nd) (h3:d.length≤300) (n0:Nd) (hn0:d[0]? = some n0):xf d↔(n0.1=1∧gf n0 = -1)∧zu0 d 0 [] d=true∧(∀(j:Nat) (n:Nd),d[j]? = some n→decide ((j:Int)∈vc d)=(gf n != -1))∧(∀(j:Nat) n,d[j]? = some n→∃m,m≤d.length∧up d m (gf n) = -1):=by
 rw [zpm d d 0 [] (by simp)]
 simp only [Nat.zero_add,List.nil_append]
 have hmem:∀k:Int,k∈vc d↔∃(i:Nat) (n:Nd),d[i]? = some n∧k∈zm n:=by
  intro k
  unfold vc
  rw [List.mem_flatMap]
  constructor
  ·rintro⟨n,hn,hk⟩
   obtain⟨i,hi⟩:=List.getElem?_of_mem hn
   exact⟨i,n,hi,hk⟩
  ·rintro⟨i,n,hi,hk⟩
   exact⟨n,List.mem_of_getElem? hi,hk⟩
 constructor
 ·intro R
  refine⟨⟨(R.root 0 n0 hn0).2 rfl,by have:=R.par0;rw [show (0:Int)=((0:Nat):Int) from rfl,zbk hn0]at this;exact this⟩,⟨fun j n hj=>⟨R.may n (List.mem_of_getElem? hj),fun hj0 hk=>by have:=(R.root j n hj).1 hk;omega,R.holds n (List.mem_of_getElem? hj),fun k hk=>⟨(R.rng n (List.mem_of_getElem? hj) k hk).1,(R.rng n (List.mem_of_getElem? hj) k hk).2,R.back j n hj k hk⟩⟩,R.nodup⟩,fun j n hj=> ?_,R.ends⟩
  rw [Bool.eq_iff_iff]
  simp only [decide_eq_true_eq,bne_iff_ne,ne_eq]
  constructor
  ·intro hk
   obtain⟨i,m,hi,hk⟩:=(hmem _).1 hk
   have:=R.back i m hi _ hk
   rw [zbk hj]at this
   omega
  ·exact R.laid j n hj
 ·rintro⟨⟨h1,h2⟩,⟨h4,h5⟩,h6,h7⟩
  refine⟨h3,by have:=(List.getElem?_eq_some_iff.1 hn0).1;omega,fun n hn=> ?_,fun i n hi=>⟨fun hk=> ?_,fun hi0=> ?_⟩,by rw [show (0:Int)=((0:Nat):Int) from rfl,zbk hn0];exact h2,fun n hn=> ?_,fun n hn k hk=> ?_,h5,fun i n hi k hk=>((h4 i n hi).2.2.2 k hk).2.2,fun i n hi hp=> ?_,h7⟩
  ·obtain⟨i,hi⟩:=List.getElem?_of_mem hn;exact(h4 i n hi).1
  ·rcases Nat.eq_zero_or_pos i with h | h
   ·exact h
   ·exact absurd hk ((h4 i n hi).2.1 h)
  ·subst hi0;rw [hn0]at hi;cases hi;exact h1
  ·obtain⟨i,hi⟩:=List.getElem?_of_mem hn;exact(h4 i n hi).2.2.1
  ·obtain⟨i,hi⟩:=List.getElem?_of_mem hn
   have:=(h4 i n hi).2.2.2 k hk
   exact⟨this.1,this.2.1⟩
  ·have:=h6 i n hi
   rw [show (gf n != -1)=true by simpa using hp]at this
   simpa using this
theorem zpn (d:List Nd) (h:Sm d):w7 (Ev.upto 500000000) ((d,()),())=some ((chk d,()),()):=by
 unfold w7
 simp only [show (300:Int)=((300:Nat):Int) from rfl,z9y]
 unfold chk
 by_cases h3:d.length>300
 ·rw [if_pos h3];simp [h3]
 rw [if_neg h3]
 simp only [decide_eq_false h3,cond_false]
 cases hd:d[0]? with
 | none=>
  have hd0:d = []:=by
   cases d with
   | nil=>rfl
   | cons a d=>simp at hd
  subst hd0
  rw [if_neg (fun R=>by have:=R.pos;simp at this)]
  rfl
 | some n0=>
  have hpos:0<d.length:=(List.getElem?_eq_some_iff.1 hd).1
  have hl0:((d.length:Int)==0)=false:=by rw [beq_eq_false_iff_ne];omega
  have hi0:idx d 0=some n0:=by unfold idx;simpa using hd
  simp only [hl0,beq_self_eq_true,cond_true,hi0,Option.bind_some]
  by_cases hr1:n0.1=1
  case neg=>
   rw [if_neg (fun R=>hr1 ((R.root 0 n0 hd).2 rfl))]
   have:(n0.1 != 1)=true:=by simpa using hr1
   simp [this]
  have e1:(n0.1 != 1)=false:=by simpa using hr1
  simp only [e1,beq_self_eq_true,cond_true,Option.bind_some]
  by_cases hr2:gf n0 = -1
  case neg=>
   rw [if_neg (fun R=>hr2 (by have:=R.par0;rw [show (0:Int)=((0:Nat):Int) from rfl,zbk hd]at this;exact this))]
   have:(n0.2.2.2.2.1 != -1)=true:=by simpa using hr2
   simp [this]
  have e2:(n0.2.2.2.2.1 != -1)=false:=by simpa using hr2
  simp only [e2,cond_false]
  simp only [Int.toNat_natCast,zzu (show d.length≤10000 by omega) (show 1≤1000 by omega),show decide ((0:Int)≤(d.length:Int))=true from decide_eq_true (by omega),beq_self_eq_true,Bool.and_self,cond_true]
  have hRI:=z5v d (by omega) n0 hd
  simp only [hr1,hr2,and_self,true_and]at hRI

  refine zbp (l:=d) (σ:=List Int) (fun i K=>(((d,((d.length:Int),((i:Int),())))),((d,()),(lay d.length K,())))) (fun i n K=>if zuz d i n K then .inl (K++zm n) else .inr (.inr ((171,()),()))) (fun K=> .inl ((),((d,()),(lay d.length K,())))) (fun _ _=>True) [] (by rw [z90];rfl) trivial (by omega) (fun i K hi _=>⟨?_,fun _ _=>trivial⟩) (fun K _=> ?_) ?_
  ·have hm:=h.2 _ (List.getElem_mem hi)
   have hm2:(zm d[i]).length≤4000:=hm.2
   simp only [zek,decide_eq_true hi,cond_true,jv hi,Option.bind_some,z8f _ hm.1,z2e d[i],ybo,ycr]
   have flag:∀(X:((Int×(List Nd)×Int×Int×Bool×Unit)×((List Nd×Unit)×(List Bool)×(Nd×Unit)×Unit))→Option (((List Nd×Int×Int×Unit)×((List Nd×Unit)×(List Bool)×Unit))⊕((Unit×((List Nd×Unit)×(List Bool)×Unit))⊕((Int×Unit)×Unit)))),
     (((bif (!mayB d[i])==false then bif decide (i>0)==true then bif (d[i].1==1)==false then bif (!(zm d[i] == []))==true then some (((i:Int),(d,((d.length:Int),((i:Int),((!za2 d[i]),()))))),((d,()),(lay d.length K,((d[i],()),())))) else some (((i:Int),(d,((d.length:Int),((i:Int),(false,()))))),((d,()),(lay d.length K,((d[i],()),())))) else some (((i:Int),(d,((d.length:Int),((i:Int),(true,()))))),((d,()),(lay d.length K,((d[i],()),())))) else bif (!(zm d[i] == []))==true then some (((i:Int),(d,((d.length:Int),((i:Int),((!za2 d[i]),()))))),((d,()),(lay d.length K,((d[i],()),())))) else some (((i:Int),(d,((d.length:Int),((i:Int),(false,()))))),((d,()),(lay d.length K,((d[i],()),())))) else some (((i:Int),(d,((d.length:Int),((i:Int),(true,()))))),((d,()),(lay d.length K,((d[i],()),()))))):Option _).bind X)
     = X (((i:Int),(d,((d.length:Int),((i:Int),(!(mayB d[i] && !(decide (i>0)&&d[i].1==1)&&(zm d[i] == []||za2 d[i])),()))))),((d,()),(lay d.length K,((d[i],()),())))):=by
    intro X
    cases mayB d[i]<;>cases decide (i>0)<;>cases (d[i].1==1)<;>cases (zm d[i] == [])<;>cases za2 d[i]<;>rfl
   refine(flag _).trans ?_
   unfold zuz
   cases hfl:(mayB d[i] && !(decide (i>0)&&d[i].1==1)&&(zm d[i] == []||za2 d[i])) with
   | false=>simp
   | true=>
    simp only [Bool.not_true,cond_false,Bool.true_and]
    refine zbp (l:=zm d[i]) (σ:=List Int) (fun j K=>(((i:Int),(d,((d.length:Int),((i:Int),(zm d[i],(((zm d[i]).length:Int),((j:Int),()))))))),((d,()),(lay d.length K,())))) (fun _ k K=>if (decide (1≤k)&&decide (k<(d.length:Int)) && !decide (k∈K)&&(pr d k==(i:Int))) then .inl (K ++ [k]) else .inr (.inr ((171,()),()))) (fun K=> .inl ((d,((d.length:Int),((i:Int),()))),((d,()),(lay d.length K,())))) (fun _ _=>True) K rfl trivial (by omega) (fun j K hj _=>⟨?_,fun _ _=>trivial⟩) (fun K _=> ?_) ?_
    ·simp only [zek,decide_eq_true hj,cond_true,jv hj,Option.bind_some,ybn,ybm,zn5]
     generalize (zm d[i])[j]=k
     by_cases k1:1≤k
     case neg=>simp [k1]
     by_cases k2:k<(d.length:Int)
     case neg=>simp [k1,k2]
     obtain⟨a,rfl⟩:=Int.eq_ofNat_of_zero_le (show 0≤k by omega)
     have ha:a<d.length:=by omega
     have hnd:d[a]? = some d[a]:=List.getElem?_eq_getElem ha
     simp only [decide_eq_true k1,decide_eq_true k2,show decide (0≤(a:Int))=true from decide_eq_true (by omega),Bool.not_true,beq_self_eq_true,Bool.and_self,cond_true,Int.toNat_natCast,zn6 ha,Option.bind_some,jv ha,Bool.true_and]
     by_cases k3:(a:Int)∈K
     ·simp [k3]
     ·rw [zbk hnd]
      simp only [decide_eq_false k3,beq_self_eq_true,cond_true,Option.bind_some,Bool.not_false,Bool.true_and]
      by_cases k4:gf d[a]=(i:Int)
      ·have b1:(d[a].2.2.2.2.1 != (i:Int))=false:=by simpa using k4
       have b2:(gf d[a]==(i:Int))=true:=by simpa using k4
       simp only [b1,b2,cond_false,if_true,zn5,decide_eq_true k2,show decide (0≤(a:Int))=true from decide_eq_true (by omega),Bool.and_self,cond_true,Int.toNat_natCast,zn6 ha,Option.bind_some,z91 ha,zgj (show j<1000000 by omega)]
      ·have b1:(d[a].2.2.2.2.1 != (i:Int))=true:=by simpa using k4
       have b2:(gf d[a]==(i:Int))=false:=by simpa using k4
       simp only [b1,b2,cond_true,Bool.false_eq_true,if_false]
    ·simp only [zek,Nat.lt_irrefl,decide_false,cond_false]
    ·rw [z2g]
     cases zme d (i:Int) K (zm d[i])
     ·rfl
     ·simp only [if_true,zgj (show i<1000000 by omega)]
  ·simp only [zek,Nat.lt_irrefl,decide_false,cond_false]
  ·rw [zzw]
   cases hok:zu0 d 0 [] d with
   | false=>
    rw [if_neg (show ¬xf d from fun R=>by have:=(hRI.1 R).1;rw [hok]at this;cases this)]
    rfl
   | true=>
    simp only [if_true,List.nil_append]

    have hK:=((zpm d d 0 [] (by simp)).1 hok)
    show Option.bind _ _=_
    refine zbp (l:=d) (σ:=Unit) (fun i _=>(((d,((d.length:Int),((i:Int),())))),((d,()),(lay d.length (vc d),())))) (fun i n _=>if !(decide ((i:Int)∈vc d)==(gf n != -1)) then .inr (.inr ((171,()),())) else .inl ()) (fun _=> .inl ((),((d,()),()))) (fun _ _=>True) () rfl trivial (by omega) (fun i s hi _=>⟨?_,fun _ _=>trivial⟩) (fun s _=> ?_) ?_
    ·simp only [zek,decide_eq_true hi,cond_true,jv hi,Option.bind_some,zn5,show decide (0≤(i:Int))=true from decide_eq_true (by omega),Bool.and_self,Int.toNat_natCast,zn6 hi]
     cases hx:(decide ((i:Int)∈vc d)==(gf d[i] != -1))
     ·simp
     ·simp only [Bool.not_true,cond_false,Bool.false_eq_true,if_false,zgj (show i<1000000 by omega)]
    ·simp only [zek,Nat.lt_irrefl,decide_false,cond_false]
    ·rcases zn7 (fun (i:Nat) (n:Nd)=> !(decide ((i:Int)∈vc d)==(gf n != -1))) ((.inr ((171,()),())):(Unit×((List Nd×Unit)×Unit))⊕((Int×Unit)×Unit)) (.inl ((),((d,()),()))) d 0 with ⟨⟨j,n,hj,hp⟩,hf⟩ | ⟨hall,hf⟩
     ·rw [hf]
      rw [if_neg (fun R=>by
       have:=(hRI.1 R).2.1 j n hj
       simp [this]at hp)]
     ·rw [hf]
      have hl:∀(j:Nat) (n:Nd),d[j]? = some n→decide ((j:Int)∈vc d)=(gf n != -1):=fun j n hj=>by
       have:=hall j n hj
       simpa using this
      have cl:∀x:Int,0≤x→x<d.length→pr d x = -1∨(0≤pr d x∧pr d x<d.length):=by
       intro x hx0 hx1
       obtain⟨a,rfl⟩:=Int.eq_ofNat_of_zero_le hx0
       have ha:a<d.length:=by omega
       have hnd:d[a]? = some d[a]:=List.getElem?_eq_getElem ha
       by_cases hp:pr d (a:Int) = -1
       ·exact .inl hp
       ·have h9:=hl a _ hnd
        rw [zbk hnd]at hp
        rw [show (gf d[a] != -1)=true by simpa using hp]at h9
        have h10:(a:Int)∈vc d:=by simpa using h9
        obtain⟨m,hm1,hm2⟩:=List.mem_flatMap.1 h10
        obtain⟨i,hi⟩:=List.getElem?_of_mem hm1
        have h11:=((hK.1 i m hi).2.2.2 _ hm2).2.2
        have:=(List.getElem?_eq_some_iff.1 hi).1
        rw [h11]
        right
        omega

      show Option.bind _ _=_
      have inner:∀(i:Nat) (hi:i<d.length),(∃m,m≤d.length∧up d m (gf d[i]) = -1)∨¬ ∃m,m≤d.length∧up d m (gf d[i]) = -1:=fun i hi=>Classical.em _
      classical
      refine zbp (l:=d) (σ:=Unit) (fun i _=>(((d,((d.length:Int),((i:Int),())))),((d,()),()))) (fun i n _=>if !decide (∃m,m≤d.length∧up d m (gf n) = -1) then .inr (.inr ((171,()),())) else .inl ()) (fun _=> .inl ((),())) (fun _ _=>True) () rfl trivial (by omega) (fun i s hi _=>⟨?_,fun _ _=>trivial⟩) (fun s _=> ?_) ?_
      ·have hnd:d[i]? = some d[i]:=List.getElem?_eq_getElem hi
       have hrng:gf d[i] = -1∨(0≤gf d[i]∧gf d[i]<d.length):=by have:=cl i (by omega) (by omega);rwa [zbk hnd]at this
       simp only [zek,decide_eq_true hi,cond_true,jv hi,Option.bind_some]
       generalize hf0:(fun (s30:(Int×Int×List Nd×Int×Int×Unit)×((List Nd×Unit)×Unit))=>(bif s30.1.2.1 != -1 then _ else _:Option (((Int×Int×List Nd×Int×Int×Unit)×((List Nd×Unit)×Unit))⊕(((List Nd×Int×Int×Unit)×((List Nd×Unit)×Unit))⊕((Int×Unit)×Unit)))))=f0
       have hw:=ybl (f:=f0) d (fun s x=>(((s:Int),(x,(d,((d.length:Int),((i:Int),()))))),((d,()),()))) (.inl ((d,((d.length:Int),((i:Int),()))),((d,()),()))) (.inr ((171,()),())) cl (fun s=>by rw [←hf0];rfl) (fun s x hx0 hx1 hs1 hs2=> ?_) (fun s x hx0 hx1 hs1=> ?_) d.length 0 (gf d[i]) 500000000 (by omega) (by omega) hrng
       ·rcases hw with ⟨he,hv⟩ | ⟨he,hv⟩
        ·rw [decide_eq_true he]
         show ((bp f0 500000000 _).bind _)=_
         have hv':bp f0 500000000 (((0:Int),(d[i].2.2.2.2.1,(d,((d.length:Int),((i:Int),()))))),((d,()),()))=_:=hv
         rw [hv']
         simp only [Option.bind_some,Bool.not_true,Bool.false_eq_true,if_false,zgj (show i<1000000 by omega)]
        ·rw [decide_eq_false he]
         show ((bp f0 500000000 _).bind _)=_
         have hv':bp f0 500000000 (((0:Int),(d[i].2.2.2.2.1,(d,((d.length:Int),((i:Int),()))))),((d,()),()))=_:=hv
         rw [hv']
         rfl
       ·rw [←hf0]
        have b1:(x != -1)=true:=by simp;omega
        simp only [b1,cond_true,zgj (show s<1000000 by omega),z9y,decide_eq_true hs1]
       ·rw [←hf0]
        have b1:(x != -1)=true:=by simp;omega
        obtain⟨a,rfl⟩:=Int.eq_ofNat_of_zero_le hx0
        have ha:a<d.length:=by omega
        simp only [b1,cond_true,zgj (show s<1000000 by omega),z9y,decide_eq_false (show ¬s+1>d.length by omega),cond_false,jv ha,Option.bind_some,zbk (List.getElem?_eq_getElem ha)]
      ·simp only [zek,Nat.lt_irrefl,decide_false,cond_false]
      ·rcases zn7 (fun (i:Nat) (n:Nd)=> !decide (∃m,m≤d.length∧up d m (gf n) = -1)) ((.inr ((171,()),())):(Unit×Unit)⊕((Int×Unit)×Unit)) (.inl ((),())) d 0 with ⟨⟨j,n,hj,hp⟩,hf⟩ | ⟨hall2,hf⟩
       ·rw [hf]
        rw [if_neg (fun R=>by
         have:=(hRI.1 R).2.2 j n hj
         simp [this]at hp)]
       ·rw [hf]
        rw [if_pos (hRI.2 ⟨hok,hl,fun j n hj=>by simpa using hall2 j n hj⟩)]
theorem z3d {l:List Int}:l.Nodup↔∀a,l.count a≤1:=by
 induction l with
 | nil=>simp
 | cons x l ih=>
  rw [List.nodup_cons,ih]
  constructor
  ·rintro⟨h1,h2⟩ a
   rw [List.count_cons]
   split
   ·rename_i h
    have e:x=a:=by simpa using h
    subst e
    rw [List.count_eq_zero.2 h1]
    omega
   ·have:=h2 a;omega
  ·intro h
   refine⟨fun hx=> ?_,fun a=> ?_⟩
   ·have:=h x
    rw [List.count_cons,if_pos (by simp)]at this
    have:=List.count_pos_iff.2 hx
    omega
   ·have:=h a
    rw [List.count_cons]at this
    omega
theorem zso:∀(n:Nat) (l:List Int),l.Nodup→(∀k,k∈l→0≤k∧k<n)→l.length≤n
 | 0,l,_,h=>by
  cases l with
  | nil=>simp
  | cons a l=>have:=h a (by simp);omega
 | n+1,l,hn,h=>by
  have h1:=zso n (l.filter fun k=>k != (n:Int)) (hn.filter _) (fun k hk=>by
   obtain⟨a,b⟩:=List.mem_filter.1 hk
   have:=h k a
   have:k≠(n:Int):=by simpa using b
   omega)
  have h2:=List.length_eq_countP_add_countP (fun k=>k != (n:Int)) (l:=l)
  rw [List.countP_eq_length_filter]at h2
  have h3:l.countP (fun k=>decide ¬((k != (n:Int))=true))=l.count (n:Int):=by
   unfold List.count
   congr 1
   funext k
   by_cases hk:k=(n:Int)<;>simp [hk]
  rw [h3]at h2
  have:=z3d.1 hn (n:Int)
  omega
theorem zn8 (d:List Nd):∀(j:Nat) (x:Int),up d (j+1) x=pr d (up d j x)
 | 0,x=>rfl
 | j+1,x=>zn8 d j (pr d x)
theorem zro (d:List Nd):∀(i j:Nat) (x:Int),up d (i+j) x=up d j (up d i x)
 | 0,j,x=>by rw [Nat.zero_add];rfl
 | i+1,j,x=>by
  rw [show i+1+j=(i+j)+1 by omega]
  exact zro d i j (pr d x)
theorem z92 {d:List Nd} {x:Int} (h:¬(0≤x∧x<d.length)):pr d x = -1:=by
 unfold pr
 cases hx:idx d x with
 | none=>rfl
 | some n=>exact absurd ⟨(qy hx).1,(qy hx).2.1⟩ h
def ks (d:List Nd) (x:Int):List Int:=match idx d x with
 | some n=>zm n
 | none=>[]
theorem zhl {d:List Nd} {i:Nat} {n:Nd} (h:d[i]? = some n):ks d (i:Int)=zm n:=by
 unfold ks idx
 rw [if_pos (by omega),Int.toNat_natCast,h]
def dn (d:List Nd):Nat→Int→List Int
 | 0,_=>[]
 | f+1,x=>x::(ks d x).flatMap (dn d f)
def okD (d:List Nd):Nat→Int→Prop
 | 0,_=>False
 | f+1,x=>∀k,k∈ks d x→okD d f k
theorem z2h {d:List Nd}:∀{f f':Nat} {x:Int},f≤f'→okD d f x→okD d f' x
 | 0,_,_,_,h=>h.elim
 | f+1,0,_,hf,_=>by omega
 | f+1,f'+1,x,hf,h=>fun k hk=>z2h (by omega) (h k hk)
def In' (d:List Nd) (x:Int):Prop:=0≤x∧x<d.length
theorem In'.nat {d:List Nd} {x:Int} (h:In' d x):∃(i:Nat) (n:Nd),x=(i:Int)∧d[i]? = some n:=by
 obtain⟨i,hi⟩:=Int.eq_ofNat_of_zero_le h.1
 have:i<d.length:=by have:=h.2;omega
 exact⟨i,d[i],hi,List.getElem?_eq_getElem this⟩
theorem xf.mem_all {d:List Nd} (R:xf d) {k:Int}:k∈vc d↔∃(i:Nat) (n:Nd),d[i]? = some n∧k∈zm n:=by
 unfold vc
 rw [List.mem_flatMap]
 constructor
 ·rintro⟨n,hn,hk⟩
  obtain⟨i,hi⟩:=List.getElem?_of_mem hn
  exact⟨i,n,hi,hk⟩
 ·rintro⟨i,n,hi,hk⟩
  exact⟨n,List.mem_of_getElem? hi,hk⟩
theorem xf.kid {d:List Nd} (R:xf d) {x k:Int} (h:k∈ks d x):In' d x∧In' d k∧1≤k∧pr d k=x:=by
 unfold ks at h
 cases hx:idx d x with
 | none=>rw [hx]at h;simp at h
 | some n=>
  rw [hx]at h
  obtain⟨h0,h1,h2⟩:=qy hx
  have hr:=R.rng n (List.mem_of_getElem? h2) k h
  have hb:=R.back _ n h2 k h
  exact⟨⟨h0,h1⟩,⟨by omega,hr.2⟩,hr.1,by rw [hb];omega⟩
theorem xf.par {d:List Nd} (R:xf d) {k:Int} (hk:In' d k) (h:pr d k ≠ -1):In' d (pr d k)∧k∈ks d (pr d k):=by
 obtain⟨i,n,rfl,hi⟩:=hk.nat
 rw [zbk hi]at h ⊢
 obtain⟨j,m,hj,hm⟩:=R.mem_all.1 (R.laid i n hi h)
 have:=R.back j m hj _ hm
 rw [zbk hi]at this
 rw [this]
 have hl:=(List.getElem?_eq_some_iff.1 hj).1
 exact⟨⟨by omega,by omega⟩,by rw [zhl hj];exact hm⟩
theorem xf.cl {d:List Nd} (R:xf d) (x:Int) (h0:0≤x) (h1:x<d.length):pr d x = -1∨(0≤pr d x∧pr d x<d.length):=by
 by_cases h:pr d x = -1
 ·exact .inl h
 ·exact .inr (R.par ⟨h0,h1⟩ h).1
theorem xf.up_in {d:List Nd} (R:xf d) {x:Int} (hx:In' d x):∀j,up d j x = -1∨In' d (up d j x)
 | 0=> .inr hx
 | j+1=>by
  rw [zn8]
  rcases R.up_in hx j with h | h
  ·rw [h];exact .inl rfl
  ·exact R.cl _ h.1 h.2
theorem xf.ends' {d:List Nd} (R:xf d) {x:Int} (hx:In' d x):∃j,j≤d.length+1∧up d j x = -1:=by
 obtain⟨i,n,rfl,hi⟩:=hx.nat
 obtain⟨j,hj,hu⟩:=R.ends i n hi
 exact⟨j+1,by omega,by show up d j (pr d i) = -1;rw [zbk hi];exact hu⟩
theorem xf.acyc {d:List Nd} (R:xf d) {x:Int} (hx:In' d x) (j:Nat) (h:up d (j+1) x=x):False:=by
 obtain⟨m,_,hm⟩:=R.ends' hx
 have hn:∀n,up d (n*(j+1)) x=x:=by
  intro n
  induction n with
  | zero=>rw [Nat.zero_mul];rfl
  | succ n ih=>rw [Nat.add_mul,Nat.one_mul,zro,ih];exact h
 have h1:=hn m
 have:m*(j+1)=m+m*j:=by rw [Nat.mul_add,Nat.mul_one];omega
 rw [this,zro,hm,zwv]at h1
 have:=hx.1
 omega
theorem ybp {P:Nat→Prop}:∀n,P n→∃m,m≤n∧P m∧∀j,j<m→¬P j:=by
 intro n
 induction n using Nat.strongRecOn with
 | ind n ih=>
  intro hn
  by_cases h:∃j,j<n∧P j
  ·obtain⟨j,hj,hp⟩:=h
   obtain⟨m,h1,h2,h3⟩:=ih j hj hp
   exact⟨m,by omega,h2,h3⟩
  ·exact⟨n,Nat.le_refl _,hn,fun j hj hp=>h ⟨j,hj,hp⟩⟩
theorem xf.okDr {d:List Nd} (R:xf d) {x:Int} (hx:In' d x):okD d (d.length+2) x:=by
 have key:∀(f m:Nat) (x:Int),In' d x→up d m x = -1→(∀j,j<m→up d j x ≠ -1)→d.length+1<m+f→okD d f x:=by
  intro f
  induction f with
  | zero=>
   intro m x hx h1 h2 h3
   obtain⟨j,hj,hu⟩:=R.ends' hx
   exact absurd hu (h2 j (by omega))
  | succ f ih=>
   intro m x hx h1 h2 h3 k hk
   obtain⟨_,g1,g2,g3⟩:=R.kid hk
   refine ih (m+1) k g1 (by show up d m (pr d k) = -1;rw [g3];exact h1) (fun j hj=> ?_) (by omega)
   cases j with
   | zero=>have:=g1.1;show k ≠ -1;omega
   | succ j=>show up d j (pr d k) ≠ -1;rw [g3];exact h2 j (by omega)
 obtain⟨j,hj,hu⟩:=R.ends' hx
 obtain⟨m,h1,h2,h3⟩:=ybp (P:=fun m=>up d m x = -1) j hu
 have hm0:0<m:=by
  rcases Nat.eq_zero_or_pos m with h | h
  ·subst h;have:=hx.1;simp only [up]at h2;omega
  ·exact h
 exact key _ m x hx h2 h3 (by omega)
theorem xf.mem_dn {d:List Nd} (R:xf d) {y:Int}:∀{f:Nat} {x:Int},y∈dn d f x→(∃j,up d j y=x)∧(y=x∨In' d y)
 | 0,x,h=>by simp [dn]at h
 | f+1,x,h=>by
  unfold dn at h
  rcases List.mem_cons.1 h with rfl | h
  ·exact⟨⟨0,rfl⟩, .inl rfl⟩
  ·obtain⟨k,hk,hy⟩:=List.mem_flatMap.1 h
   obtain⟨⟨j,hj⟩,hin⟩:=R.mem_dn hy
   obtain⟨_,g1,_,g3⟩:=R.kid hk
   refine⟨⟨j+1,by rw [zn8,hj];exact g3⟩,?_⟩
   rcases hin with rfl | h
   ·exact .inr g1
   ·exact .inr h
theorem xf.dn_mem {d:List Nd} (R:xf d) {y:Int} (hy:In' d y):∀(j:Nat) {f:Nat} {x:Int},okD d f x→In' d x→up d j y=x→y∈dn d f x
 | 0,0,x,h,_,_=>h.elim
 | 0,f+1,x,_,_,h=>by
  obtain rfl:y=x:=h
  exact List.mem_cons_self ..
 | j+1,0,x,h,_,_=>h.elim
 | j+1,f+1,x,h,hx,hu=>by
  rw [zn8]at hu
  have hz:In' d (up d j y):=by
   rcases R.up_in hy j with h1 | h1
   ·rw [h1,ybk]at hu;have:=hx.1;omega
   ·exact h1
  have hk:=(R.par hz (by rw [hu];have:=hx.1;omega)).2
  rw [hu]at hk
  unfold dn
  exact List.mem_cons_of_mem _ (List.mem_flatMap.2 ⟨_,hk,R.dn_mem hy j (h _ hk) hz rfl⟩)
theorem zww {α β:Type} (f:α→List β):∀{l:List α},l.Nodup→(∀a,a∈l→(f a).Nodup)→(∀a b,a∈l→b∈l→a≠b→∀x,x∈f a→x∈f b→False)→(l.flatMap f).Nodup
 | [],_,_,_=>by simp
 | a::l,h,h1,h2=>by
  obtain⟨h3,h4⟩:=List.nodup_cons.1 h
  rw [List.flatMap_cons,List.nodup_append]
  refine⟨h1 a (List.mem_cons_self ..),zww f h4 (fun b hb=>h1 b (List.mem_cons_of_mem _ hb)) (fun b c hb hc=>h2 b c (List.mem_cons_of_mem _ hb) (List.mem_cons_of_mem _ hc)),fun x hx y hy e=> ?_⟩
  subst e
  obtain⟨b,hb,hxb⟩:=List.mem_flatMap.1 hy
  exact h2 a b (List.mem_cons_self ..) (List.mem_cons_of_mem _ hb) (fun e=>h3 (e▸hb)) x hx hxb
theorem xf.ks_nodup {d:List Nd} (R:xf d) (x:Int):(ks d x).Nodup:=by
 unfold ks
 cases hx:idx d x with
 | none=>simp
 | some n=>
  have hn:=List.mem_of_getElem? (qy hx).2.2
  refine List.Nodup.sublist ?_ R.nodup
  obtain⟨l1,l2,e⟩:=List.append_of_mem hn
  show (zm n).Sublist (vc d)
  rw [e]
  simp only [vc,List.flatMap_append,List.flatMap_cons]
  exact(List.sublist_append_left _ _).trans (List.sublist_append_right _ _)
theorem xf.dn_nodup {d:List Nd} (R:xf d):∀(f:Nat) {x:Int},In' d x→(dn d f x).Nodup
 | 0,x,_=>by simp [dn]
 | f+1,x,hx=>by
  unfold dn
  rw [List.nodup_cons]
  refine⟨fun h=> ?_,zww _ (R.ks_nodup x) (fun k hk=>R.dn_nodup f (R.kid hk).2.1) (fun k1 k2 h1 h2 hne y hy1 hy2=> ?_)⟩
  ·obtain⟨k,hk,hxk⟩:=List.mem_flatMap.1 h
   obtain⟨⟨j,hj⟩,_⟩:=R.mem_dn hxk
   exact R.acyc hx j (by rw [zn8,hj];exact(R.kid hk).2.2.2)
  ·obtain⟨⟨a,ha⟩,_⟩:=R.mem_dn hy1
   obtain⟨⟨b,hb⟩,_⟩:=R.mem_dn hy2
   have p1:=(R.kid h1).2.2.2
   have p2:=(R.kid h2).2.2.2
   have main:∀(a b:Nat) (k1 k2:Int),up d a y=k1→up d b y=k2→pr d k1=x→pr d k2=x→a<b→False:=by
    intro a b k1 k2 ha hb p1 p2 hab
    obtain⟨c,rfl⟩:∃c,b=a+(c+1):=⟨b-a-1,by omega⟩
    rw [zro,ha]at hb
    have h3:up d c x=k2:=by rw [←p1];exact hb
    exact R.acyc hx c (by rw [zn8,h3];exact p2)
   rcases Nat.lt_trichotomy a b with h | h | h
   ·exact main a b k1 k2 ha hb p1 p2 h
   ·subst h;exact hne (ha.symm.trans hb)
   ·exact main b a k2 k1 hb ha p2 p1 h
theorem xf.dn_in {d:List Nd} (R:xf d) (f:Nat) {x y:Int} (hx:In' d x) (h:y∈dn d f x):In' d y:=by
 rcases (R.mem_dn h).2 with rfl | h
 ·exact hx
 ·exact h
theorem xf.dn_len {d:List Nd} (R:xf d) (f:Nat) {x:Int} (hx:In' d x):(dn d f x).length≤d.length:=
 zso _ _ (R.dn_nodup f hx) fun k hk=>R.dn_in f hx hk
def below (d:List Nd) (x:Int):List Int:=dn d 400 x
theorem xf.okD4 {d:List Nd} (R:xf d) {x:Int} (hx:In' d x):okD d 400 x:=z2h (by have:=R.len;omega) (R.okDr hx)
theorem xf.mem_below {d:List Nd} (R:xf d) {x y:Int} (hx:In' d x):y∈below d x↔In' d y∧∃j,up d j y=x:=
 ⟨fun h=>⟨R.dn_in _ hx h,(R.mem_dn h).1⟩,fun ⟨h1,j,h2⟩=>R.dn_mem h1 j (R.okD4 hx) hx h2⟩
noncomputable def thr (d:List Nd) (x:Int):Bool:=(chk d==0)&&(decide (x≥0)&&decide (x<d.length))
theorem zq0 {d:List Nd} {x:Int}:thr d x=true↔xf d∧In' d x:=by
 unfold thr In' chk
 simp only [Bool.and_eq_true,beq_iff_eq,decide_eq_true_eq]
 constructor
 ·rintro⟨h1,h2,h3⟩
  refine⟨?_,h2,h3⟩
  by_cases h:d.length>300
  ·rw [if_pos h]at h1;omega
  ·rw [if_neg h]at h1
   by_cases hR:xf d
   ·exact hR
   ·rw [if_neg hR]at h1;omega
 ·rintro⟨h1,h2,h3⟩
  refine⟨?_,h2,h3⟩
  rw [if_neg (by have:=h1.len;omega),if_pos h1]
theorem chk0 {d:List Nd}:chk d=0↔xf d:=by
 unfold chk
 constructor
 ·intro h1
  by_cases h:d.length>300
  ·rw [if_pos h]at h1;omega
  ·rw [if_neg h]at h1
   by_cases hR:xf d
   ·exact hR
   ·rw [if_neg hR]at h1;omega
 ·intro h1
  rw [if_neg (by have:=h1.len;omega),if_pos h1]
theorem ybq (d:List Nd) (x:Int) (h:Sm d):bo (Ev.upto 500000000) ((d,(x,())),())=some ((thr d x,()),()):=by
 unfold bo thr
 simp only [zpn d h,Option.bind_some]
 cases (chk d==0)<;>cases decide (x≥0)<;>rfl
def stp (d:List Nd) (P:Int→Bool):Nat→Int→Int
 | 0,x=>x
 | m+1,x=>if P x then x else stp d P m (pr d x)
theorem xf.up400 {d:List Nd} (R:xf d) {x:Int} (hx:In' d x):up d 400 x = -1:=by
 obtain⟨j,hj,hu⟩:=R.ends' hx
 have:=R.len
 rw [show 400=j+(400-j) by omega,zro,hu,zwv]
def topP (top x:Int):Bool:=decide (x<0)||x==top
def undB (d:List Nd) (x top:Int):Bool:=stp d (topP top) 400 x==top
theorem z8g {d:List Nd} {x:Int} (h:In' d x):∃n:Nd,idx d x=some n∧n.2.2.2.2.1=pr d x:=by
 obtain⟨n,hn,_⟩:=zmd h.1 h.2
 exact⟨n,hn,by unfold pr;rw [hn]⟩
theorem zq1 {ε δ β:Type} (h:ε→List δ) (fin:List δ→β):∀(l:List ε) (i:Nat) (s:List δ),zbz (fun (_:Nat) (x:ε) (s:List δ)=>(.inl (s++h x):List δ⊕β)) fin i l s=fin (s++l.flatMap h)
 | [],i,s=>by simp [zbz]
 | x::l,i,s=>by
  unfold zbz
  simp only
  rw [zq1 h fin l (i+1) (s++h x),List.flatMap_cons,List.append_assoc]
theorem z08 {ε δ:Type} (h:ε→List δ):∀(l:List ε) (i:Nat) (hi:i<l.length),((l.take i).flatMap h).length+(h l[i]).length≤(l.flatMap h).length
 | [],i,hi=>by simp at hi
 | x::l,0,hi=>by simp
 | x::l,i+1,hi=>by
  have:=z08 h l i (by simpa using hi)
  simp only [List.take_succ_cons,List.flatMap_cons,List.length_append,List.getElem_cons_succ]
  omega
theorem zu1 {ε δ:Type} (h:ε→List δ):∀(l:List ε) (i:Nat) (hi:i<l.length),(l.take i).flatMap h++h l[i]=(l.take (i+1)).flatMap h
 | [],i,hi=>by simp at hi
 | x::l,0,hi=>by simp
 | x::l,i+1,hi=>by
  have:=zu1 h l i (by simpa using hi)
  simp only [List.take_succ_cons,List.flatMap_cons,List.getElem_cons_succ,List.append_assoc,this]
abbrev TN:Ty:= .pair (.int .i64) (.pair .str (.pair .str (.pair (.slice 52 (.pair .str .str)) (.pair (.int .i64) (.pair (.slice 3 (.int .i64)) (.pair .bool .bool))))))
theorem z5w (l:List At) (h:l.length≤4000):zp (Ev.upto 500000000) ((l,()),())=some ((),(l,())):=by
 cases l with
 | nil=>rfl
 | cons a l=>
  unfold zp
  simp only [List.isEmpty_cons,Bool.not_false,cond_true,List.length_nil,Nat.zero_add,zzu (show (a::l).length≤10000 by omega) (show 32≤1000 by omega),List.nil_append]
theorem z8h (l:List Int) (h:l.length≤4000):xy (Ev.upto 500000000) ((l,()),())=some ((),(l,())):=by
 cases l with
 | nil=>rfl
 | cons a l=>
  unfold xy
  simp only [List.isEmpty_cons,Bool.not_false,cond_true,List.length_nil,Nat.zero_add,zzu (show (a::l).length≤10000 by omega) (show 8≤1000 by omega),List.nil_append]
theorem z8i (l:List Nd) (h:l.length≤4000):yd (Ev.upto 500000000) ((l,()),())=some ((),(l,())):=by
 cases l with
 | nil=>rfl
 | cons a l=>
  unfold yd
  simp only [List.isEmpty_cons,Bool.not_false,cond_true,List.length_nil,Nat.zero_add,zzu (show (a::l).length≤10000 by omega) (show 104≤1000 by omega),List.nil_append]
theorem ybr (i:Nat):lnum TN i 0=2*i:=by show i*2+0=2*i;omega
theorem ybs (i:Nat):lnum TN i 3=2*i:=by show i*2+0=2*i;omega
theorem ybt (i:Nat):lnum TN i 5=2*i+1:=by show i*2+1=2*i+1;omega
theorem ybu:Ty.nsl TN=2:=rfl
theorem zya {α:Type} {l:List α} {i:Nat} (h:i<l.length):l.set i l[i]=l:=by
 apply List.ext_getElem?
 intro j
 rw [List.getElem?_set]
 by_cases e:i=j
 ·subst e
  rw [if_pos rfl,if_pos h,List.getElem?_eq_getElem h]
 ·rw [if_neg e]
theorem getN {l:List Nd} {i:Nat} (hi:i<l.length):l[((i:Nat):Int).toNat]? = some l[i]:=by
 rw [Int.toNat_natCast]
 exact List.getElem?_eq_getElem hi
theorem z8j (d:List Nd) (h:Sm d):zbs (Ev.upto 500000000) ((d,()),())=some ((),(d,())):=by
 unfold zbs
 simp only [z8i d h.1,Option.bind_some]
 refine zbp (l:=d) (σ:=Unit) (fun i _=>(((d.length:Int),((i:Int),())),((),((),((2*i,d),()))))) (fun _ _ _=> .inl ()) (fun _=>((),((),((),((2*d.length,d),()))))) (fun _ _=>True) () rfl trivial (by have:=h.1;omega) (fun i s hi _=>⟨?_,fun _ _=>trivial⟩) (fun s _=> ?_) (by rw [zuw _ _ _ _ (fun _ _=>rfl)];simp only [ybu,beq_self_eq_true,cond_true])
 ·have hm:=h.2 _ (List.getElem_mem hi)
  have:=h.1
  have e1:d.set ((i:Nat):Int).toNat (d[i].1,(d[i].2.1,(d[i].2.2.1,(d[i].2.2.2.1,d[i].2.2.2.2))))=d:=zya hi
  have e2:d.set ((i:Nat):Int).toNat (d[i].1,(d[i].2.1,(d[i].2.2.1,(d[i].2.2.2.1,(d[i].2.2.2.2.1,(d[i].2.2.2.2.2.1,d[i].2.2.2.2.2.2))))))=d:=zya hi
  simp only [zek,decide_eq_true hi,cond_true,decide_eq_true (show (0:Int)≤(i:Int) by omega),Bool.and_self,getN hi,Option.bind_some,ybr,ybs,ybt,Nat.le_refl,decide_true,beq_self_eq_true,z5w _ hm.1,z8h _ hm.2,e1,e2,zgj (show i<1000000 by omega)]
  simp only [Int.toNat_natCast,Nat.le_refl,decide_true,beq_self_eq_true,cond_true]
  rfl
 ·simp only [zek,Nat.lt_irrefl,decide_false,cond_false]
def mkN (n:Nd):Nd:=(n.1,(n.2.1,(n.2.2.1,(n.2.2.2.1,((-1:Int),(([]:List Int),n.2.2.2.2.2.2))))))
noncomputable def mk (d:List Nd) (n:Nd):Int×Int×List Nd:=if chk d=0 then (if (!mayB n||n.1==1)=true then (0,1,[]) else if 300≤d.length then (0,2,[]) else ((d.length:Int),0,d ++ [mkN n])) else (0,chk d,[])
theorem ybv (n k:Nat):decide ((n:Int)≥(k:Int))=decide (k≤n):=by
 by_cases h:k≤n
 ·rw [decide_eq_true h,decide_eq_true (by omega)]
 ·rw [decide_eq_false h,decide_eq_false (by omega)]
theorem ycs (n:Nat):decide ((n:Int)≥300)=decide (300≤n):=ybv n 300
theorem z93 (d:List Nd) (n:Nd) (h:Sm d) (h1:n.2.2.2.1.length≤4000):zix (Ev.upto 500000000) ((d,(n,())),())=some (((mk d n).1,((mk d n).2.1,())),((mk d n).2.2,())):=by
 unfold zix mk
 simp only [zpn d h,z8f n h1,Option.bind_some]
 by_cases hc:chk d=0
 ·simp only [hc,bne_self_eq_false,cond_false,if_true]
  cases hm:mayB n with
  | false=>rfl
  | true=>
   simp only [Bool.not_true,beq_self_eq_true,cond_true,Option.bind_some,Bool.false_or]
   cases hk:(n.1==(1:Int)) with
   | true=>rfl
   | false=>
    simp only [cond_false,ycs,Bool.false_eq_true,if_false]
    by_cases hl:300≤d.length
    ·simp only [decide_eq_true hl,cond_true,if_pos hl]
     rfl
    ·simp only [decide_eq_false hl,cond_false,if_neg hl,Option.bind_some,hc,bne_self_eq_false,z5w _ h1,z8j d h,zzu (show d.length+([mkN n]:List Nd).length≤10000 by simp;omega) (show 104≤1000 by omega)]
     have e:=zzu (show d.length+([mkN n]:List Nd).length≤10000 by simp;omega) (show 104≤1000 by omega)
     unfold mkN at e ⊢
     simp only [e,cond_true]
     rw [jm (by simp<;>omega) (by simp<;>omega)]
     simp
 ·rw [if_neg hc]
  simp only [bne_iff_ne.2 hc,cond_true,Option.bind_some]
theorem ybw {α:Type} {l:List α} {i:Nat} (x:α) (h:i<l.length):(l.set i x)[i]? = some x:=by
 rw [List.getElem?_set,if_pos rfl,if_pos h]
theorem zwx (a b:Int):y9 (Ev.upto 500000000) ((([a,b]:List Int),()),())=some ((if a=0 then b else a,()),()):=by
 unfold y9
 refine zbp (l:=([a,b]:List Int)) (σ:=Unit) (fun i _=>(((0:Int),(([a,b]:List Int),(((([a,b]:List Int).length:Nat):Int),((i:Int),())))),())) (fun _ x _=>if (x != 0)=true then .inr (.inr ((x,()),())) else .inl ()) (fun _=> .inl (((0:Int),()),())) (fun _ _=>True) () rfl trivial (by simp) (fun i s hi _=>⟨?_,fun _ _=>trivial⟩) (fun s _=> ?_) ?_
 ·have hi2:i<2:=by simpa using hi
  simp only [zek,decide_eq_true hi,cond_true,jv hi,Option.bind_some,zgj (show i<1000000 by omega)]
  cases h:(([a,b]:List Int)[i] != 0)<;>rfl
 ·simp only [zek,Nat.lt_irrefl,decide_false,cond_false]
 ·unfold zbz zbz zbz
  by_cases ha:a=0
  ·subst ha
   by_cases hb:b=0
   ·subst hb;rfl
   ·simp only [bne_self_eq_false,Bool.false_eq_true,if_false,bne_iff_ne.2 hb,if_true]
  ·simp only [bne_iff_ne.2 ha,if_true,if_neg ha]
theorem yct:decide ((-1:Int)≥0)=false:=rfl
theorem zzx {d:List Nd} {x:Int} (h:¬In' d x):thr d x=false:=by
 cases ht:thr d x with
 | false=>rfl
 | true=>exact absurd (zq0.1 ht).2 h
theorem z7l {α:Type} {l:List α} {x:Int} (h:¬(0≤x∧x<l.length)):idx l x=none:=by
 cases hx:idx l x with
 | none=>rfl
 | some n=>exact absurd ⟨(qy hx).1,(qy hx).2.1⟩ h
theorem z5x {d d':List Nd} (hp:∀x,pr d' x=pr d x):∀(j:Nat) (x:Int),up d' j x=up d j x
 | 0,_=>rfl
 | j+1,x=>by
  show up d' j (pr d' x)=up d j (pr d x)
  rw [hp,z5x hp j]
theorem zel {α:Type} {l:List α} {x:Int} {a b:α} (h:idx l x=some a):idx (l.set x.toNat b) x=some b:=by
 obtain⟨h0,h1,h2⟩:=qy h
 unfold idx
 rw [if_pos h0]
 exact ybw _ (List.getElem?_eq_some_iff.1 h2).1
theorem zb8 {α:Type} {l:List α} {x y:Int} {b:α} (h0:0≤x) (h:y≠x):idx (l.set x.toNat b) y=idx l y:=by
 unfold idx
 by_cases hy:0≤y
 ·rw [if_pos hy,if_pos hy,List.getElem?_set,if_neg (by omega)]
 ·rw [if_neg hy,if_neg hy]
theorem ybx (l:List Int) (x:Int) (h:l.length≤4000):wp (xn (Ev.upto 500000000) ((l,()),((x,()),()))) (fun o=>(o=(((-1:Int),()),((x,()),()))∧∀k (hk:k<l.length),l[k]≠x)∨∃(i:Nat) (hi:i<l.length),o=(((i:Int),()),((x,()),()))∧l[i]=x∧∀k (hk:k<i),l[k]≠x):=by
 unfold xn gx
 refine zew (fun o=>(o = .inl ((),((x,()),()))∧∀k (hk:k<l.length),l[k]≠x)∨∃(i:Nat) (hi:i<l.length),o = .inr (((i:Int),()),((x,()),()))∧l[i]=x∧∀k (hk:k<i),l[k]≠x) ?_ ?_
 ·refine zrk (fun i (_:Unit)=>((l,((l.length:Int),((i:Int),()))),((x,()),()))) (fun i _=>∀k (hk:k<l.length),k<i→l[k]≠x) l.length () rfl (fun k hk h=>by omega) (by omega) (fun i s hi hI=> ?_)
  simp only [zek]
  refine z74 (fun hlt=> ?_) (fun hge=>zh5 (.inl ⟨rfl,fun k hk=>hI k hk (by omega)⟩))
  simp only [jv hlt,Option.bind_some,zgj (show i<1000000 by omega)]
  refine z4v (fun he=>zh5 (.inr ⟨i,hlt,rfl,beq_iff_eq.1 he,fun k hk=>hI k (by omega) hk⟩)) (fun hne=>zh5 ⟨hlt,(),rfl,fun k hk hk2=> ?_⟩)
  rcases Nat.lt_succ_iff_lt_or_eq.1 hk2 with h2 | h2
  ·exact hI k hk h2
  ·subst h2;exact beq_eq_false_iff_ne.1 hne
 ·rintro o (⟨rfl,h⟩ | ⟨i,hi,rfl,h1,h2⟩)
  ·exact zh5 (.inl ⟨rfl,h⟩)
  ·exact zh5 (.inr ⟨i,hi,rfl,h1,h2⟩)
theorem zyb {l:List Int} {i:Nat} (v:Int) (h:i<l.length):(l.set i v).take (i+1)=l.take i ++ [v]:=by
 rw [List.take_succ_eq_append_getElem (by simpa using h),List.getElem_set_self,List.take_set_of_le (Nat.le_refl _)]
theorem z09 {l:List Int} {i j:Nat} (v:Int) (h:i<j):(l.set i v).drop j=l.drop j:=by
 rw [List.drop_set_of_lt h]
theorem z94 (l:List Int) (x:Int) (h:l.length≤4000):xe (Ev.upto 500000000) ((),(l,((x,()),())))=some ((),((x,()),(l.filter (· != x),()))):=by
 apply zr9
 unfold xe
 simp only [Option.bind_some]
 refine zew _ (ybx l x h) ?_
 rintro o (⟨rfl,hno⟩ | ⟨i,hi,rfl,hix,hbef⟩)
 ·refine z86 rfl (zh5 ?_)
  have:l.filter (· != x)=l:=List.filter_eq_self.2 fun a ha=>by
   obtain⟨k,hk,rfl⟩:=List.getElem_of_mem ha
   exact bne_iff_ne.2 (hno k hk)
  rw [this]
 ·refine z6w (show ((i:Int)==(-1:Int))=false from beq_eq_false_iff_ne.2 (by omega)) ?_
  have h0:(l.take (i+1)).filter (· != x)=l.take i:=by
   rw [List.take_succ_eq_append_getElem hi,List.filter_append]
   have e1:(l.take i).filter (· != x)=l.take i:=List.filter_eq_self.2 fun a ha=>by
    obtain⟨k,hk,rfl⟩:=List.getElem_of_mem ha
    rw [List.length_take]at hk
    rw [List.getElem_take]
    exact bne_iff_ne.2 (hbef k (by omega))
   rw [e1,hix]
   simp
  refine zew (fun o=>∃(i':Nat) (l':List Int),o=(((i':Int),()),((x,()),(l',())))∧i'≤l'.length∧l'.length=l.length∧l'.take i'=l.filter (· != x)) ?_ ?_
  ·refine zrk (fun k (s:Nat×List Int)=>(((s.1:Int),(((i+1+k:Nat):Int),())),((x,()),(s.2,())))) (fun k s=>s.1≤i+1+k∧i+1+k≤l.length∧s.2.length=l.length∧s.2.take s.1=(l.take (i+1+k)).filter (· != x)∧s.2.drop (i+1+k)=l.drop (i+1+k)) (l.length-(i+1)) (i,l) (by simp only [Nat.add_zero];rw [zgj (show i<1000000 by omega)]) ⟨by show i≤_;omega,by omega,rfl,h0.symm,rfl⟩ (by omega) (fun k s hk hI=> ?_)
   obtain⟨g1,g2,g3,g4,g5⟩:=hI
   simp only [g3,zek]
   refine z74 (fun hlt=> ?_) (fun hge=> ?_)
   ·have hv:s.2[((i+1+k:Nat):Int).toNat]? = some l[i+1+k]:=by
     rw [Int.toNat_natCast]
     have:=congrArg (fun z:List Int=>z[0]?) g5
     simp only [List.getElem?_drop,Nat.add_zero]at this
     rw [this]
     exact List.getElem?_eq_getElem hlt
    have htk:l.take (i+1+(k+1))=l.take (i+1+k) ++ [l[i+1+k]]:=by
     rw [show i+1+(k+1)=(i+1+k)+1 by omega]
     exact List.take_succ_eq_append_getElem hlt
    have hdr:s.2.drop (i+1+(k+1))=l.drop (i+1+(k+1)):=by
     have:=congrArg (fun z:List Int=>z.drop 1) g5
     simp only [List.drop_drop]at this
     exact this
    simp only [decide_eq_true hlt,decide_eq_true (show (0:Int)≤((i+1+k:Nat):Int) by omega),Bool.and_self,cond_true,hv,Option.bind_some,gx]
    by_cases hx:l[i+1+k]=x
    ·simp only [hx,beq_self_eq_true,Bool.not_true,cond_false,Option.bind_some,zgj (show i+1+k<1000000 by omega)]
     refine zh5 ⟨by omega,s,rfl,by omega,by omega,g3,?_,hdr⟩
     rw [htk,List.filter_append,hx,g4]
     simp
    ·have hs1:s.1<s.2.length:=by omega
     simp only [beq_eq_false_iff_ne.2 hx,Bool.not_false,cond_true,decide_eq_true (show (0:Int)≤(s.1:Int) by omega),decide_eq_true (show s.1<l.length by omega),Bool.and_self,Int.toNat_natCast,List.getElem?_eq_getElem hs1,Option.bind_some,zgj (show i+1+k<1000000 by omega),zgj (show s.1<1000000 by omega)]
     refine zh5 ⟨by omega,(s.1+1,s.2.set s.1 l[i+1+k]),rfl,by show s.1+1≤_;omega,by omega,by show (s.2.set _ _).length=_;simpa using g3,?_,?_⟩
     ·show (s.2.set s.1 l[i+1+k]).take (s.1+1)=_
      rw [zyb _ hs1,htk,List.filter_append,g4]
      simp [hx]
     ·show (s.2.set s.1 l[i+1+k]).drop _=_
      rw [z09 _ (by omega),hdr]
   ·refine zh5 ⟨s.1,s.2,rfl,by omega,g3,?_⟩
    rw [g4,List.take_of_length_le (by omega)]
  ·rintro _ ⟨i',l',rfl,g1,g2,g3⟩
   simp only [decide_eq_true (show (0:Int)≤(i':Int) by omega),decide_eq_true (show (i':Int)≤(l'.length:Int) by omega),decide_eq_true (Int.le_refl (l'.length:Int)),Bool.and_self,cond_true,Int.toNat_natCast]
   have e:sl (List.take i' l'++List.replicate (l'.length-i') (0:Int)++List.drop l'.length l') (0:Int) (i':Int)=some (l'.take i'):=by
    rw [show (0:Int)=((0:Nat):Int) from rfl,zeh (by omega) (by simp;omega),List.drop_zero,List.append_assoc,List.take_append_of_le_length (by simp;omega),List.take_take,Nat.min_self]
   refine zc6 (z6v e (zh5 ?_))
   rw [g3]
def cutK (x:Int) (p:Nd):Nd:=(p.1,(p.2.1,(p.2.2.1,(p.2.2.2.1,(p.2.2.2.2.1,((zm p).filter (· != x),p.2.2.2.2.2.2))))))
def reP (q:Int) (n:Nd):Nd:=(n.1,(n.2.1,(n.2.2.1,(n.2.2.2.1,(q,n.2.2.2.2.2)))))
def addK (x:Int) (p:Nd):Nd:=(p.1,(p.2.1,(p.2.2.1,(p.2.2.2.1,(p.2.2.2.2.1,(zm p ++ [x],p.2.2.2.2.2.2))))))
def unK (d:List Nd) (x:Int):List Nd:=match idx d (pr d x) with
 | some p=>d.set (pr d x).toNat (cutK x p)
 | none=>d
def outD (d:List Nd) (x:Int):List Nd:=match idx d x with
 | some n=>(unK d x).set x.toNat (reP (-1) n)
 | none=>d
theorem getX {α:Type} {l:List α} {x:Int} {a:α} (h:idx l x=some a):(decide (0≤x)&&decide (x<(l.length:Int)))=true∧l[x.toNat]? = some a∧x.toNat<l.length:=by
 obtain⟨h0,h1,h2⟩:=qy h
 exact⟨by rw [decide_eq_true h0,decide_eq_true h1];rfl,h2,(List.getElem?_eq_some_iff.1 h2).1⟩
theorem xf.pr_ne {d:List Nd} (R:xf d) {x:Int} (hx:In' d x):pr d x≠x:=fun h=>R.acyc hx 0 h
theorem z95 (d:List Nd) (x:Int):(unK d x).length=d.length:=by
 unfold unK
 cases idx d (pr d x)<;>simp
theorem zpo (d:List Nd) (x:Int):(outD d x).length=d.length:=by
 unfold outD
 cases idx d x with
 | none=>rfl
 | some n=>simp [z95]
theorem z5y {d:List Nd} (R:xf d) {x:Int} (hx:In' d x) {n:Nd} (hn:idx d x=some n):idx (unK d x) x=some n:=by
 unfold unK
 cases hp:idx d (pr d x) with
 | none=>exact hn
 | some p=>simp only;rw [zb8 (qy hp).1 (R.pr_ne hx).symm];exact hn
theorem yby (d:List Nd) (x:Int) (h:Sm d) (R:xf d) (hx:In' d x):zfz (Ev.upto 500000000) ((x,()),(d,()))=some ((),(outD d x,())):=by
 unfold zfz outD
 obtain⟨n,hn,hp⟩:=z8g hx
 obtain⟨g1,g2,g3⟩:=getX hn
 simp only [g1,cond_true,g2,Option.bind_some,hp,hn]
 have hu:=z5y R hx hn
 obtain⟨k1,k2,k3⟩:=getX hu
 by_cases hq:pr d x = -1
 ·have e:unK d x=d:=by unfold unK;rw [hq];rfl
  rw [e]at k1 k2 k3 ⊢
  simp only [hq,yct,cond_false,Option.bind_some,k1,cond_true,k2]
  rfl
 ·obtain⟨hin,_⟩:=R.par hx hq
  obtain⟨p,hpi,_⟩:=zmd hin.1 hin.2
  obtain⟨m1,m2,m3⟩:=getX hpi
  have e:unK d x=d.set (pr d x).toNat (cutK x p):=by unfold unK;rw [hpi]
  rw [e]at k1 k2 k3 ⊢
  have hm:=(h.2 p (List.mem_of_getElem? m2)).2
  unfold cutK at k2
  simp only [decide_eq_true (show pr d x≥0 from hin.1),decide_eq_true hin.2,Bool.and_self,cond_true,m2,Option.bind_some]
  rw [z94 _ x hm]
  simp only [Option.bind_some,beq_self_eq_true,cond_true,List.length_set,decide_eq_true hx.1,decide_eq_true hx.2,Bool.and_self]
  have k2':=k2
  simp only [k2,Option.bind_some]
  rfl
theorem zwy {β:Type} (q:Int) (D:Int→List Int) (fin:Int→β):∀(l:List Int) (i:Nat) (s:Int),zbz (fun (_:Nat) (k:Int) (s:Int)=>(.inl (if q∈D k then 172 else s):Int⊕β)) fin i l s=fin (if q∈l.flatMap D then 172 else s)
 | [],i,s=>by simp [zbz]
 | a::l,i,s=>by
  unfold zbz
  simp only
  rw [zwy q D fin l (i+1),List.flatMap_cons]
  congr 1
  by_cases h1:q∈D a
  ·rw [if_pos h1,if_pos (List.mem_append_left _ h1)]
   split<;>rfl
  ·rw [if_neg h1]
   by_cases h2:q∈l.flatMap D
   ·rw [if_pos h2,if_pos (List.mem_append_right _ h2)]
   ·rw [if_neg h2,if_neg (fun h=>(List.mem_append.1 h).elim h1 h2)]
theorem putR (k q e:Int):zly (Ev.upto 500000000) ((k,()),((q,()),((e,()),())))=some ((true,()),((q,()),((if k=q then 172 else e,()),()))):=by
 unfold zly
 by_cases h:k=q
 ·subst h;simp
 ·simp [beq_eq_false_iff_ne.2 h,h]
theorem ycu (d:List Nd) (R:xf d) (hd:Sm d) (q:Int):∀(f m:Nat) (x:Int) (e:Int),f≤m→okD d f x→In' d x→zaz (Ev.upto 500000000) (zly (Ev.upto 500000000)) m ((d,(x,())),((q,()),((e,()),())))=some ((true,()),((q,()),((if q∈dn d f x then 172 else e,()),()))):=by
 intro f
 induction f with
 | zero=>intro m x e _ h;exact h.elim
 | succ f ih=>
  intro m x e hm ho hx
  obtain⟨m,rfl⟩:∃k,m=k+1:=⟨m-1,by omega⟩
  obtain⟨n,hn,hg⟩:=zmd hx.1 hx.2
  have hks:ks d x=zm n:=by unfold ks;rw [hn]
  have hm2:(zm n).length≤4000:=(hd.2 n (List.mem_of_getElem? hg)).2
  unfold dn
  rw [hks]
  have ho':∀k,k∈zm n→okD d f k:=fun k hk=>ho k (hks▸hk)
  have hin':∀k,k∈zm n→In' d k:=fun k hk=>(R.kid (x:=x) (hks.symm▸hk)).2.1
  unfold zaz ze4
  simp only [putR x q e,Option.bind_some,Bool.not_true,cond_false,hn]
  refine zbp (l:=zm n) (σ:=Int) (fun i s=>((zm n,((zm n).length,((i:Int),()))),((q,()),((s,()),((d,()),()))))) (fun _ k s=> .inl (if q∈dn d f k then 172 else s)) (fun s=> .inl ((),((q,()),((s,()),())))) (fun i s=>True) (if x=q then 172 else e) rfl trivial (by omega) (fun i s hi hs=>⟨?_,fun s' e=>trivial⟩) (fun s _=> ?_) ?_
  ·have hk:(zm n)[i]∈zm n:=List.getElem_mem hi
   simp only [zek,decide_eq_true hi,cond_true,jv hi,Option.bind_some,zgj (show i<1000000 by omega)]
   rw [ih m _ s (by omega) (ho' _ hk) (hin' _ hk)]
   rfl
  ·simp only [zek,Nat.lt_irrefl,decide_false,cond_false]
  ·rw [zwy]
   simp only [List.mem_cons]
   by_cases h1:q∈(zm n).flatMap (dn d f)
   ·rw [if_pos h1,if_pos (Or.inr h1)]
   ·rw [if_neg h1]
    by_cases h2:x=q
    ·rw [if_pos h2,if_pos (Or.inl h2.symm)]
    ·rw [if_neg h2,if_neg (fun h=>h.elim (fun h=>h2 h.symm) h1)]
theorem ycv {d:List Nd} {x:Int} (h:x<0):pr d x = -1:=z92 (by omega)
theorem z8k (d:List Nd) (P:Int→Bool):∀(m:Nat) (x:Int),∃j,stp d P m x=up d j x
 | 0,x=>⟨0,rfl⟩
 | m+1,x=>by
  unfold stp
  cases P x with
  | true=>exact⟨0,rfl⟩
  | false=>
   obtain⟨j,hj⟩:=z8k d P m (pr d x)
   exact⟨j+1,hj⟩
theorem z5z (d:List Nd) (top:Int) (h0:0≤top):∀(m j:Nat) (x:Int),j≤m→up d j x=top→stp d (topP top) m x=top
 | 0,j,x,hj,h=>by
  obtain rfl:j=0:=by omega
  exact h
 | m+1,j,x,hj,h=>by
  unfold stp
  cases hp:topP top x with
  | true=>
   simp only [if_true]
   simp only [topP,Bool.or_eq_true,decide_eq_true_eq,beq_iff_eq]at hp
   rcases hp with hp | hp
   ·exfalso
    cases j with
    | zero=>simp only [up]at h;omega
    | succ j=>
     have:up d (j+1) x=up d j (pr d x):=rfl
     rw [this,ycv hp,zwv]at h
     omega
   ·exact hp
  | false=>
   simp only [Bool.false_eq_true,if_false]
   simp only [topP,Bool.or_eq_false_iff,beq_eq_false_iff_ne]at hp
   cases j with
   | zero=>exact absurd h hp.2
   | succ j=>exact z5z d top h0 m j (pr d x) (by omega) h
theorem zyc {d:List Nd} (R:xf d) {q x:Int} (hq:In' d q) (hx:In' d x):undB d q x=true↔q∈below d x:=by
 rw [R.mem_below hx]
 unfold undB
 rw [beq_iff_eq]
 constructor
 ·intro h
  obtain⟨j,hj⟩:=z8k d (topP x) 400 q
  exact⟨hq,j,by rw [←hj];exact h⟩
 ·rintro⟨_,j,hj⟩
  refine z5z d x hx.1 400 j q ?_ hj
  refine Nat.le_of_not_lt fun hlt=> ?_
  have:j=400+(j-400):=by omega
  rw [this,zro,R.up400 hq,zwv]at hj
  have:=hx.1
  omega
def putD (d:List Nd) (q x:Int):List Nd:=match idx (outD d x) x with
 | some n=>(match idx ((outD d x).set x.toNat (reP q n)) q with
  | some p=>((outD d x).set x.toNat (reP q n)).set q.toNat (addK x p)
  | none=>d)
 | none=>d
noncomputable def puts (d:List Nd) (q x:Int):Int×List Nd:=if chk d=0 then (match (if (0≤q∧q<d.length)∧1≤x∧x<d.length then idx d q else none) with
 | some p=>if za2 p=true then (if undB d q x=true then (172,[]) else (0,putD d q x)) else (170,[])
 | none=>(170,[])) else (chk d,[])
def Sk (c:Nat) (d:List Nd):Prop:=d.length≤4000∧∀n,n∈d→n.2.2.2.1.length≤4000∧(zm n).length≤c
theorem Sk.sm {c:Nat} {d:List Nd} (h:Sk c d) (hc:c≤4000):Sm d:=⟨h.1,fun n hn=>⟨(h.2 n hn).1,Nat.le_trans (h.2 n hn).2 hc⟩⟩
theorem z05.sk {d:List Nd} (h:z05 d):Sk 400 d:=⟨by have:=h.1;omega,fun n hn=>by have:=h.2 n hn;unfold NdOk at this;exact⟨by omega,by show n.2.2.2.2.2.1.length≤400;omega⟩⟩
theorem Sk.mono {c e:Nat} {d:List Nd} (h:Sk c d) (hc:c≤e):Sk e d:=⟨h.1,fun n hn=>⟨(h.2 n hn).1,Nat.le_trans (h.2 n hn).2 hc⟩⟩
theorem Sk.set {c:Nat} {l:List Nd} (h:Sk c l) (i:Nat) {n:Nd} (h1:n.2.2.2.1.length≤4000) (h2:(zm n).length≤c):Sk c (l.set i n):=by
 refine⟨by simpa using h.1,fun m hm=> ?_⟩
 rcases List.mem_or_eq_of_mem_set hm with hm | rfl
 ·exact h.2 m hm
 ·exact⟨h1,h2⟩
theorem Sk.at {c:Nat} {l:List Nd} (h:Sk c l) {x:Int} {n:Nd} (hn:idx l x=some n):n.2.2.2.1.length≤4000∧(zm n).length≤c:=h.2 n (List.mem_of_getElem? (qy hn).2.2)
theorem Sk.unK {c:Nat} {d:List Nd} (h:Sk c d) (x:Int):Sk c (unK d x):=by
 unfold Go.En.Pl.unK
 cases hp:idx d (pr d x) with
 | none=>exact h
 | some p=>
  have:=h.at hp
  exact h.set _ this.1 (Nat.le_trans (List.length_filter_le _ _) this.2)
theorem Sk.out {c:Nat} {d:List Nd} (h:Sk c d) (x:Int):Sk c (outD d x):=by
 unfold outD
 cases hn:idx d x with
 | none=>exact h
 | some n=>
  have:=h.at hn
  exact(h.unK x).set _ this.1 this.2
theorem Sk.put {c:Nat} {d:List Nd} (h:Sk c d) (q x:Int):Sk (c+1) (putD d q x):=by
 unfold putD
 have ho:=h.out x
 cases hn:idx (outD d x) x with
 | none=>exact h.mono (by omega)
 | some n=>
  simp only
  have hn':=ho.at hn
  have h1:Sk c ((outD d x).set x.toNat (reP q n)):=ho.set _ hn'.1 hn'.2
  cases hp:idx ((outD d x).set x.toNat (reP q n)) q with
  | none=>exact h.mono (by omega)
  | some p=>
   have hp':=h1.at hp
   exact(h1.mono (show c≤c+1 by omega)).set _ hp'.1 (by show (zm p ++ [x]).length≤c+1;simp;omega)
theorem ybz (d:List Nd) (q x:Int) (h:Sm d):zmq (Ev.upto 500000000) ((d,(q,(x,()))),())=some (((puts d q x).1,()),((puts d q x).2,())):=by
 unfold zmq puts
 simp only [zpn d h,ybq d q h,ybq d x h,Option.bind_some]
 by_cases hc:chk d=0
 ·have R:=chk0.1 hc
  rw [if_pos hc]
  simp only [hc,bne_self_eq_false,beq_self_eq_true,cond_true]
  by_cases hq:In' d q
  ·simp only [zq0.2 ⟨R,hq⟩,beq_self_eq_true,cond_true]
   by_cases hx:In' d x
   ·simp only [zq0.2 ⟨R,hx⟩,beq_self_eq_true,cond_true]
    by_cases h1:1≤x
    ·obtain⟨p,hp,hg⟩:=zmd hq.1 hq.2
     simp only [decide_eq_true (show x>0 by omega),beq_self_eq_true,cond_true,hp,Option.bind_some,z2e p,be]
     rw [if_pos (show (0≤q∧q<(d.length:Int))∧1≤x∧x<(d.length:Int) from ⟨hq,h1,hx.2⟩)]
     cases hh:za2 p with
     | false=>
      simp only [hh,cond_false,Option.bind_some,Bool.false_eq_true,if_false]
      rw [zwx 0 170]
      rfl
     | true=>
      simp only [hh,cond_true,Option.bind_some,if_true]
      rw [zwx 0 0]
      simp only [if_true,Option.bind_some,bne_self_eq_false,cond_false,zb1,za9,zhc]
      have e:(Ev.upto 500000000).rc (zaz (Ev.upto 500000000) (zly (Ev.upto 500000000))) ((d,(x,())),((q,()),(((0:Int),()),())))=some ((true,()),((q,()),((if q∈below d x then 172 else 0,()),()))):=ycu d R h q 400 500000000 x 0 (by omega) (R.okD4 hx) hx
      rw [e]
      simp only [Option.bind_some]
      by_cases hu:q∈below d x
      ·rw [if_pos ((zyc R hq hx).2 hu)]
       simp only [if_pos hu]
       rfl
      ·rw [if_neg (fun hh=>hu ((zyc R hq hx).1 hh))]
       simp only [if_neg hu,bne_self_eq_false,cond_false,z8j d h,yby d x h R hx,Option.bind_some]
       have hlen:=zpo d x
       have ho:In' (outD d x) x:=⟨hx.1,by rw [hlen];exact hx.2⟩
       obtain⟨n',hn',hgn⟩:=zmd ho.1 ho.2
       have ho2:In' ((outD d x).set x.toNat (reP q n')) q:=⟨hq.1,by rw [List.length_set,hlen];exact hq.2⟩
       obtain⟨p',hp',hgp⟩:=zmd ho2.1 ho2.2
       have hsk:Sk 4000 ((outD d x).set x.toNat (reP q n')):=by
        have h0:Sk 4000 d:=⟨h.1,h.2⟩
        have h1:=(h0.out x).at hn'
        exact(h0.out x).set _ h1.1 h1.2
       have hk:=(hsk.at hp').2
       have hf:=zzu (show (zm p').length+([x]:List Int).length≤10000 by simp;omega) (show 8≤1000 by omega)
       unfold putD
       rw [hn']
       simp only
       rw [hp']
       unfold reP at hgp ⊢
       simp only [decide_eq_true ho.1,decide_eq_true ho.2,Bool.and_self,cond_true,hgn,Option.bind_some,List.length_set,decide_eq_true hq.1,hlen,decide_eq_true hq.2,hgp,hf,beq_self_eq_true,decide_eq_true hx.1,decide_eq_true hx.2]
       rfl
    ·simp only [decide_eq_false (show ¬x>0 by omega),Bool.false_beq,Bool.not_true,cond_false,be,Option.bind_some]
     rw [zwx 0 170,if_neg (show ¬((0≤q∧q<(d.length:Int))∧1≤x∧x<(d.length:Int)) from fun hh=>h1 hh.2.1)]
     rfl
   ·simp only [zzx hx,Bool.false_beq,Bool.not_true,cond_false,be,Option.bind_some]
    rw [zwx 0 170,if_neg (show ¬((0≤q∧q<(d.length:Int))∧1≤x∧x<(d.length:Int)) from fun hh=>hx ⟨by omega,hh.2.2⟩)]
    rfl
  ·simp only [zzx hq,Bool.false_beq,Bool.not_true,cond_false,be,Option.bind_some]
   rw [zwx 0 170,if_neg (show ¬((0≤q∧q<(d.length:Int))∧1≤x∧x<(d.length:Int)) from fun hh=>hq hh.1)]
   rfl
 ·rw [if_neg hc]
  simp only [bne_iff_ne.2 hc,Bool.true_beq,cond_false,be,cond_true,Option.bind_some]
  rw [zwx (chk d) 0]
  simp only [if_neg hc,bne_iff_ne.2 hc,Option.bind_some,cond_true]
def Like (n n':Nd):Prop:=n'.1=n.1∧n'.2.1=n.2.1∧n'.2.2.1=n.2.2.1∧n'.2.2.2.1=n.2.2.2.1∧n'.2.2.2.2.2.2=n.2.2.2.2.2.2
theorem Like.may {n n':Nd} (h:Like n n'):mayB n'=mayB n:=by
 unfold mayB
 rw [h.1,h.2.1,h.2.2.1,h.2.2.2.1,h.2.2.2.2]
theorem Like.holds {n n':Nd} (h:Like n n'):za2 n'=za2 n:=by
 unfold za2
 rw [h.1]
theorem Like.refl (n:Nd):Like n n:=⟨rfl,rfl,rfl,rfl,rfl⟩
theorem Like.trans {a b c:Nd} (h:Like a b) (g:Like b c):Like a c:=⟨g.1.trans h.1,g.2.1.trans h.2.1,g.2.2.1.trans h.2.2.1,g.2.2.2.1.trans h.2.2.2.1,g.2.2.2.2.trans h.2.2.2.2⟩
structure Mv (d d':List Nd) (P:Int→Int) (K:Int→List Int):Prop where
 len:d'.length=d.length
 at':∀(i:Nat) (n:Nd),d[i]? = some n→∃n',d'[i]? = some n'∧Like n n'∧gf n'=P i∧zm n'=K i
theorem Mv.get {d d':List Nd} {P:Int→Int} {K:Int→List Int} (M:Mv d d' P K) {i:Nat} {n':Nd} (h:d'[i]? = some n'):∃n,d[i]? = some n∧Like n n'∧gf n'=P i∧zm n'=K i:=by
 have hlt:=(List.getElem?_eq_some_iff.1 h).1
 have hi:d[i]? = some (d[i]'(by rw [←M.len];exact hlt)):=List.getElem?_eq_getElem _
 obtain⟨m,h1,h2⟩:=M.at' i _ hi
 rw [h]at h1
 cases h1
 exact⟨_,hi,h2⟩
theorem Mv.pr {d d':List Nd} {P:Int→Int} {K:Int→List Int} (M:Mv d d' P K) {x:Int} (hx:In' d x):pr d' x=P x:=by
 obtain⟨i,n,rfl,hi⟩:=hx.nat
 obtain⟨n',h1,_,h2,_⟩:=M.at' i n hi
 rw [zbk h1,h2]
theorem Mv.ks {d d':List Nd} {P:Int→Int} {K:Int→List Int} (M:Mv d d' P K) {x:Int} (hx:In' d x):ks d' x=K x:=by
 obtain⟨i,n,rfl,hi⟩:=hx.nat
 obtain⟨n',h1,_,_,h2⟩:=M.at' i n hi
 rw [zhl h1,h2]
theorem Mv.in {d d':List Nd} {P:Int→Int} {K:Int→List Int} (M:Mv d d' P K) {x:Int}:In' d' x↔In' d x:=by
 unfold In'
 rw [M.len]
theorem zkl {α:Type} {l:List α} {i:Nat} {a:α} (h:l[i]? = some a):idx l (i:Int)=some a:=by
 unfold idx
 rw [if_pos (by omega),Int.toNat_natCast,h]
theorem zu2 {α:Type} {l:List α} {i:Nat} {a:α} (h:idx l (i:Int)=some a):l[i]? = some a:=by
 have:=(qy h).2.2
 rwa [Int.toNat_natCast]at this
theorem zzy {l:List Int} {x:Int} (h:x∉l):l.filter (· != x)=l:=List.filter_eq_self.2 fun a ha=>bne_iff_ne.2 fun e=>h (e▸ha)
theorem xf.no_kid {d:List Nd} (R:xf d) {x y:Int} (h:pr d x≠y):x∉ks d y:=fun hk=>h (R.kid hk).2.2.2
theorem xf.mvOut {d:List Nd} (R:xf d) {x:Int} (hx:In' d x):Mv d (outD d x) (fun y=>if y=x then -1 else pr d y) (fun y=>(ks d y).filter (· != x)):=by
 refine⟨zpo d x,fun i n hi=> ?_⟩
 obtain⟨m,hm,hpm⟩:=z8g hx
 have hout:outD d x=(unK d x).set x.toNat (reP (-1) m):=by unfold outD;rw [hm]
 have hui:=z5y R hx hm

 have hun:∃n1,idx (unK d x) (i:Int)=some n1∧Like n n1∧gf n1=gf n∧zm n1=(zm n).filter (· != x):=by
  unfold unK
  cases hp:idx d (pr d x) with
  | none=>
   refine⟨n,zkl hi,Like.refl n,rfl,?_⟩
   have:x∉ks d (i:Int):=R.no_kid fun e=>by rw [e,zkl hi]at hp;cases hp
   rw [zhl hi]at this
   exact(zzy this).symm
  | some p=>
   by_cases e:(i:Int)=pr d x
   ·rw [←e]at hp ⊢
    rw [zkl hi]at hp
    cases hp
    exact⟨_,zel (zkl hi),⟨rfl,rfl,rfl,rfl,rfl⟩,rfl,rfl⟩
   ·refine⟨n,by simp only;rw [zb8 (qy hp).1 e];exact zkl hi,Like.refl n,rfl,?_⟩
    have:x∉ks d (i:Int):=R.no_kid fun e'=>e e'.symm
    rw [zhl hi]at this
    exact(zzy this).symm
 obtain⟨n1,h1,hl,hp1,hk1⟩:=hun
 by_cases e:(i:Int)=x
 ·subst e
  have:n1=m:=by rw [hui]at h1;exact(Option.some.inj h1).symm
  subst this
  refine⟨reP (-1) n1,?_,hl.trans ⟨rfl,rfl,rfl,rfl,rfl⟩,?_,?_⟩
  ·rw [hout];exact zu2 (zel hui)
  ·show (-1:Int)=_
   rw [if_pos rfl]
  ·show zm n1=_
   rw [hk1,zhl hi]
 ·refine⟨n1,?_,hl,?_,?_⟩
  ·rw [hout];exact zu2 (by rw [zb8 hx.1 e];exact h1)
  ·rw [hp1]
   show _=if (i:Int)=x then -1 else pr d (i:Int)
   rw [if_neg e,zbk hi]
  ·rw [hk1,zhl hi]
theorem Mv.map {d d':List Nd} {P:Int→Int} {K:Int→List Int} (M:Mv d d' P K):d'.map zm=(List.range d.length).map fun i:Nat=>K i:=by
 apply List.ext_getElem?
 intro i
 rw [List.getElem?_map,List.getElem?_map]
 by_cases h:i<d.length
 ·obtain⟨n',h1,_,_,h2⟩:=M.at' i _ (List.getElem?_eq_getElem h)
  rw [h1,List.getElem?_range h]
  exact congrArg some h2
 ·rw [List.getElem?_eq_none (by rw [M.len];omega),List.getElem?_eq_none (by simp;omega)]
  rfl
theorem yb0 (d:List Nd):d.map zm=(List.range d.length).map fun i:Nat=>Go.En.Pl.ks d i:=by
 apply List.ext_getElem?
 intro i
 rw [List.getElem?_map,List.getElem?_map]
 by_cases h:i<d.length
 ·rw [List.getElem?_eq_getElem h,List.getElem?_range h]
  exact congrArg some (zhl (List.getElem?_eq_getElem h)).symm
 ·rw [List.getElem?_eq_none (by omega),List.getElem?_eq_none (by simp;omega)]
  rfl
theorem zyd (d:List Nd):vc d=(d.map zm).flatten:=List.flatMap_def
theorem zq2 (p:Int→Bool):∀L:List (List Int),(L.map (List.filter p)).flatten=L.flatten.filter p
 | []=>rfl
 | a::L=>by rw [List.map_cons,List.flatten_cons,List.flatten_cons,List.filter_append,zq2 p L]
theorem xf.kidsOut {d:List Nd} (R:xf d) {x:Int} (hx:In' d x):vc (outD d x)=(vc d).filter (· != x):=by
 rw [zyd,zyd,(R.mvOut hx).map,←zq2,yb0,List.map_map]
 rfl
theorem z50 {d d':List Nd} {x:Int} (hp:∀y,y≠x→In' d y→pr d' y=pr d y) (hx:pr d' x = -1) (R:xf d):∀(j:Nat) (y:Int),(y = -1∨In' d y)→up d j y = -1→∃j',j'≤j∧up d' j' y = -1
 | 0,y,_,h=>⟨0,Nat.le_refl _,h⟩
 | j+1,y,hy,h=>by
  rcases hy with rfl | hy
  ·exact⟨0,by omega,rfl⟩
  by_cases e:y=x
  ·subst e
   exact⟨1,by omega,hx⟩
  ·obtain⟨j',h1,h2⟩:=z50 hp hx R j (pr d y) (R.cl y hy.1 hy.2) h
   exact⟨j'+1,by omega,by show up d' j' (pr d' y) = -1;rw [hp y e hy];exact h2⟩
theorem xf.par_in {d:List Nd} (R:xf d) {i:Nat} {n:Nd} (hi:d[i]? = some n):gf n = -1∨In' d (gf n):=by
 have hlt:=(List.getElem?_eq_some_iff.1 hi).1
 have:=R.cl (i:Int) (by omega) (by omega)
 rw [zbk hi]at this
 exact this
theorem xf.out {d:List Nd} (R:xf d) {x:Int} (hx:In' d x) (h1:1≤x):xf (outD d x):=by
 have M:=R.mvOut hx
 have hpr:∀y,y≠x→In' d y→Go.En.Pl.pr (outD d x) y=Go.En.Pl.pr d y:=fun y e hy=>by rw [M.pr hy];exact if_neg e
 have hprx:Go.En.Pl.pr (outD d x) x = -1:=by rw [M.pr hx];exact if_pos rfl
 exact {
  len:=by rw [M.len];exact R.len
  pos:=by rw [M.len];exact R.pos
  may:=fun n' h'=>by
   obtain⟨i,hi⟩:=List.getElem?_of_mem h'
   obtain⟨n,h1,h2,_⟩:=M.get hi
   rw [h2.may]
   exact R.may n (List.mem_of_getElem? h1)
  root:=fun i n' h'=>by obtain⟨n,h1,h2,_⟩:=M.get h';rw [h2.1];exact R.root i n h1
  par0:=by rw [hpr 0 (by omega) ⟨by omega,by have:=R.pos;omega⟩];exact R.par0
  holds:=fun n' h' hk=>by
   obtain⟨i,hi⟩:=List.getElem?_of_mem h'
   obtain⟨n,h1,h2,_,h4⟩:=M.get hi
   rw [h2.holds]
   refine R.holds n (List.mem_of_getElem? h1) fun e=>hk ?_
   rw [h4,zhl h1,e]
   rfl
  rng:=fun n' h' k hk=>by
   obtain⟨i,hi⟩:=List.getElem?_of_mem h'
   obtain⟨n,h1,h2,_,h4⟩:=M.get hi
   rw [h4,zhl h1]at hk
   rw [M.len]
   exact R.rng n (List.mem_of_getElem? h1) k (List.mem_filter.1 hk).1
  nodup:=by rw [R.kidsOut hx];exact R.nodup.sublist List.filter_sublist
  back:=fun i n' h' k hk=>by
   obtain⟨n,h1,h2,_,h4⟩:=M.get h'
   rw [h4,zhl h1]at hk
   obtain⟨hk1,hk2⟩:=List.mem_filter.1 hk
   have hr:=R.rng n (List.mem_of_getElem? h1) k hk1
   rw [hpr k (bne_iff_ne.1 hk2) ⟨by omega,hr.2⟩]
   exact R.back i n h1 k hk1
  laid:=fun i n' h' hp=>by
   obtain⟨n,h1,h2,h3,h4⟩:=M.get h'
   rw [h3]at hp
   have hne:(i:Int)≠x:=fun e=>hp (if_pos e)
   rw [if_neg hne,zbk h1]at hp
   rw [R.kidsOut hx]
   exact List.mem_filter.2 ⟨R.laid i n h1 hp,bne_iff_ne.2 hne⟩
  ends:=fun i n' h'=>by
   obtain⟨n,h1,h2,h3,h4⟩:=M.get h'
   rw [M.len]
   by_cases e:(i:Int)=x
   ·exact⟨0,by omega,by rw [h3];exact if_pos e⟩
   ·rw [h3,if_neg e,zbk h1]
    obtain⟨j,hj,hu⟩:=R.ends i n h1
    obtain⟨j',hj',hu'⟩:=z50 hpr hprx R j _ (R.par_in h1) hu
    exact⟨j',by omega,hu'⟩ }
theorem xf.mvPut {d:List Nd} (R:xf d) {q x:Int} (hx:In' d x) (hq:In' d q) (hne:q≠x):Mv d (putD d q x) (fun y=>if y=x then q else pr d y) (fun y=>if y=q then (ks d y).filter (· != x) ++ [x] else (ks d y).filter (· != x)):=by
 have M:=R.mvOut hx
 obtain⟨n',hn',_⟩:=zmd (l:=outD d x) (i:=x) hx.1 (by rw [zpo];exact hx.2)
 obtain⟨p0,hp0,_⟩:=zmd (l:=outD d x) (i:=q) hq.1 (by rw [zpo];exact hq.2)
 have hp':idx ((outD d x).set x.toNat (reP q n')) q=some p0:=by rw [zb8 hx.1 hne];exact hp0
 have e:putD d q x=((outD d x).set x.toNat (reP q n')).set q.toNat (addK x p0):=by
  unfold putD
  rw [hn']
  simp only
  rw [hp']
 rw [e]
 refine⟨by simp [zpo],fun i n hi=> ?_⟩
 obtain⟨m,h1,h2,h3,h4⟩:=M.at' i n hi
 have h1':=zkl h1
 by_cases ex:(i:Int)=x
 ·have eq:(i:Int)≠q:=fun h=>hne (h.symm.trans ex)
  subst ex
  rw [hn']at h1'
  cases h1'
  refine⟨reP q n',zu2 ?_,h2.trans ⟨rfl,rfl,rfl,rfl,rfl⟩,?_,?_⟩
  ·rw [zb8 hq.1 eq];exact zel hn'
  ·show q=_
   rw [if_pos rfl]
  ·rw [if_neg eq];exact h4
 ·by_cases eq:(i:Int)=q
  ·subst eq
   rw [hp0]at h1'
   cases h1'
   refine⟨addK x p0,zu2 (zel hp'),h2.trans ⟨rfl,rfl,rfl,rfl,rfl⟩,?_,?_⟩
   ·rw [if_neg ex]
    rw [if_neg ex]at h3
    exact h3
   ·show zm p0 ++ [x]=_
    rw [if_pos rfl,h4]
  ·refine⟨m,zu2 ?_,h2,?_,?_⟩
   ·rw [zb8 hq.1 eq,zb8 hx.1 ex];exact h1'
   ·rw [if_neg ex]
    rw [if_neg ex]at h3
    exact h3
   ·rw [if_neg eq];exact h4
theorem yb1 (A:Int→List Int) (q x:Int):∀(L:List Nat),L.Nodup→(∃j,j∈L∧(j:Int)=q)→(L.map fun i:Nat=>if (i:Int)=q then A i ++ [x] else A i).flatten.Perm (x::(L.map fun i:Nat=>A i).flatten)
 | [],_,⟨j,hj,_⟩=>by simp at hj
 | a::L,hn,hq=>by
  obtain⟨h1,h2⟩:=List.nodup_cons.1 hn
  rw [List.map_cons,List.map_cons,List.flatten_cons,List.flatten_cons]
  by_cases e:(a:Int)=q
  ·have:(L.map fun i:Nat=>if (i:Int)=q then A i ++ [x] else A i)=L.map fun i:Nat=>A i:=List.map_congr_left fun b hb=>if_neg fun h=>h1 (by
    have:b=a:=by omega
    exact this▸hb)
   rw [if_pos e,this,List.append_assoc]
   exact List.perm_middle
  ·rw [if_neg e]
   obtain⟨j,hj,hjq⟩:=hq
   have hjL:j∈L:=by
    rcases List.mem_cons.1 hj with rfl | h
    ·exact absurd hjq e
    ·exact h
   exact((yb1 A q x L h2 ⟨j,hjL,hjq⟩).append_left (A a)).trans List.perm_middle
theorem xf.kidsPut {d:List Nd} (R:xf d) {q x:Int} (hx:In' d x) (hq:In' d q) (hne:q≠x):(vc (putD d q x)).Perm (x::(vc d).filter (· != x)):=by
 rw [zyd,(R.mvPut hx hq hne).map]
 obtain⟨j,hj⟩:=Int.eq_ofNat_of_zero_le hq.1
 refine(yb1 (fun y=>(ks d y).filter (· != x)) q x (List.range d.length) List.nodup_range ⟨j,List.mem_range.2 (by have:=hq.2;omega),hj.symm⟩).trans ?_
 rw [zyd,yb0,←zq2,List.map_map]
 exact List.Perm.refl _
theorem yb2 {d:List Nd} (cl:∀y,In' d y→pr d y = -1∨In' d (pr d y)) {y:Int} (hy:y = -1∨In' d y) {j:Nat} (h:up d j y = -1):∃j',j'≤d.length∧up d j' y = -1:=by
 obtain⟨m,hm,h1,h2⟩:=ybp (P:=fun m=>up d m y = -1) j h
 refine⟨m,?_,h1⟩
 have hin:∀k,up d k y = -1∨In' d (up d k y):=by
  intro k
  induction k with
  | zero=>exact hy
  | succ k ih=>
   rw [zn8]
   rcases ih with e | e
   ·rw [e];exact .inl rfl
   ·exact cl _ e
 have hnd:((List.range m).map fun k=>up d k y).Nodup:=by
  refine List.pairwise_map.2 (List.Pairwise.imp_of_mem (fun {a b} ha hb hab he=> ?_) List.pairwise_lt_range)
  have ha:=List.mem_range.1 ha
  have hb:=List.mem_range.1 hb
  refine h2 (a+(m-b)) (by omega) ?_
  rw [zro,he,←zro,show b+(m-b)=m by omega]
  exact h1
 have:=zso d.length _ hnd fun k hk=>by
  obtain⟨a,ha,rfl⟩:=List.mem_map.1 hk
  rcases hin a with e | e
  ·exact absurd e (h2 a (List.mem_range.1 ha))
  ·exact e
 simpa using this
theorem xf.put {d:List Nd} (R:xf d) {q x:Int} (hx:In' d x) (h1:1≤x) (hq:In' d q) {p:Nd} (hp:idx d q=some p) (hh:za2 p=true) (hb:q∉below d x):xf (putD d q x):=by
 have hne:q≠x:=fun e=>hb (e▸(R.mem_below hx).2 ⟨hx,0,rfl⟩)
 have M:=R.mvPut hx hq hne
 have hpr:∀y,y≠x→In' d y→Go.En.Pl.pr (putD d q x) y=Go.En.Pl.pr d y:=fun y e hy=>by rw [M.pr hy];exact if_neg e
 have hprx:Go.En.Pl.pr (putD d q x) x=q:=by rw [M.pr hx];exact if_pos rfl
 have hperm:=R.kidsPut hx hq hne
 have qup:∀(j:Nat) (y:Int),(y = -1∨In' d y)→(∀i,up d i y≠x)→up d j y = -1→up (putD d q x) j y = -1:=by
  intro j
  induction j with
  | zero=>intro y _ _ h;exact h
  | succ j ih=>
   intro y hy hno h
   rcases hy with rfl | hy
   ·exact zwv _
   ·show up (putD d q x) j (Go.En.Pl.pr (putD d q x) y) = -1
    rw [hpr y (hno 0) hy]
    exact ih _ (R.cl y hy.1 hy.2) (fun i=>hno (i+1)) h
 have hqend:∃j,up (putD d q x) j q = -1:=by
  obtain⟨j,_,hj⟩:=R.ends' hq
  exact⟨j,qup j q (.inr hq) (fun i hi=>hb ((R.mem_below hx).2 ⟨hq,i,hi⟩)) hj⟩
 have hend:∀(j:Nat) (y:Int),(y = -1∨In' d y)→up d j y = -1→∃j',up (putD d q x) j' y = -1:=by
  intro j
  induction j with
  | zero=>intro y _ h;exact⟨0,h⟩
  | succ j ih=>
   intro y hy h
   rcases hy with rfl | hy
   ·exact⟨0,rfl⟩
   by_cases e:y=x
   ·subst e
    obtain⟨jq,hjq⟩:=hqend
    exact⟨jq+1,by show up _ jq (Go.En.Pl.pr _ y) = -1;rw [hprx];exact hjq⟩
   ·obtain⟨j',hj'⟩:=ih _ (R.cl y hy.1 hy.2) h
    exact⟨j'+1,by show up _ j' (Go.En.Pl.pr _ y) = -1;rw [hpr y e hy];exact hj'⟩
 have cl':∀y,In' (putD d q x) y→Go.En.Pl.pr (putD d q x) y = -1∨In' (putD d q x) (Go.En.Pl.pr (putD d q x) y):=by
  intro y hy
  rw [M.in]at hy ⊢
  by_cases e:y=x
  ·subst e
   rw [hprx]
   exact .inr hq
  ·rw [hpr y e hy]
   exact R.cl y hy.1 hy.2
 exact {
  len:=by rw [M.len];exact R.len
  pos:=by rw [M.len];exact R.pos
  may:=fun n' h'=>by
   obtain⟨i,hi⟩:=List.getElem?_of_mem h'
   obtain⟨n,h1,h2,_⟩:=M.get hi
   rw [h2.may]
   exact R.may n (List.mem_of_getElem? h1)
  root:=fun i n' h'=>by obtain⟨n,h1,h2,_⟩:=M.get h';rw [h2.1];exact R.root i n h1
  par0:=by rw [hpr 0 (by omega) ⟨by omega,by have:=R.pos;omega⟩];exact R.par0
  holds:=fun n' h' hk=>by
   obtain⟨i,hi⟩:=List.getElem?_of_mem h'
   obtain⟨n,g1,g2,_,g4⟩:=M.get hi
   rw [g2.holds]
   by_cases e:(i:Int)=q
   ·rw [←e,zkl g1]at hp
    cases hp
    exact hh
   ·rw [if_neg e]at g4
    refine R.holds n (List.mem_of_getElem? g1) fun e'=>hk ?_
    rw [g4,zhl g1,e']
    rfl
  rng:=fun n' h' k hk=>by
   obtain⟨i,hi⟩:=List.getElem?_of_mem h'
   obtain⟨n,g1,g2,_,g4⟩:=M.get hi
   rw [g4]at hk
   rw [M.len]
   have hf:k∈(ks d i).filter (· != x)→1≤k∧k<(d.length:Int):=fun hk=>by
    rw [zhl g1]at hk
    exact R.rng n (List.mem_of_getElem? g1) k (List.mem_filter.1 hk).1
   by_cases e:(i:Int)=q
   ·rw [if_pos e]at hk
    rcases List.mem_append.1 hk with hk | hk
    ·exact hf hk
    ·rw [List.mem_singleton.1 hk];exact⟨h1,hx.2⟩
   ·rw [if_neg e]at hk;exact hf hk
  nodup:=by
   rw [hperm.nodup_iff,List.nodup_cons]
   exact⟨fun h=>by simpa using (List.mem_filter.1 h).2,R.nodup.sublist List.filter_sublist⟩
  back:=fun i n' h' k hk=>by
   obtain⟨n,g1,g2,_,g4⟩:=M.get h'
   rw [g4]at hk
   have hf:k∈(ks d i).filter (· != x)→Go.En.Pl.pr (putD d q x) k=(i:Int):=fun hk=>by
    rw [zhl g1]at hk
    obtain⟨hk1,hk2⟩:=List.mem_filter.1 hk
    have hr:=R.rng n (List.mem_of_getElem? g1) k hk1
    rw [hpr k (bne_iff_ne.1 hk2) ⟨by omega,hr.2⟩]
    exact R.back i n g1 k hk1
   by_cases e:(i:Int)=q
   ·rw [if_pos e]at hk
    rcases List.mem_append.1 hk with hk | hk
    ·exact hf hk
    ·rw [List.mem_singleton.1 hk,hprx];exact e.symm
   ·rw [if_neg e]at hk;exact hf hk
  laid:=fun i n' h' hpn=>by
   obtain⟨n,g1,g2,g3,g4⟩:=M.get h'
   rw [hperm.mem_iff,List.mem_cons]
   by_cases e:(i:Int)=x
   ·exact .inl e
   ·rw [g3,if_neg e,zbk g1]at hpn
    exact .inr (List.mem_filter.2 ⟨R.laid i n g1 hpn,bne_iff_ne.2 e⟩)
  ends:=fun i n' h'=>by
   obtain⟨n,g1,g2,g3,g4⟩:=M.get h'
   have hlt:=(List.getElem?_eq_some_iff.1 g1).1
   by_cases e:(i:Int)=x
   ·rw [g3,if_pos e]
    obtain⟨j,hj⟩:=hqend
    exact yb2 cl' (.inr (M.in.2 hq)) hj
   ·rw [g3,if_neg e,zbk g1]
    obtain⟨j,_,hj⟩:=R.ends i n g1
    obtain⟨j',hj'⟩:=hend j _ (R.par_in g1) hj
    exact yb2 cl' ((R.par_in g1).imp id fun h=>M.in.2 h) hj' }
theorem xf.made {d:List Nd} (R:xf d) {n:Nd} (hm:mayB n=true) (hk:n.1≠1) (hl:d.length<300):xf (d ++ [mkN n]):=by
 have hp:∀y,Go.En.Pl.pr (d ++ [mkN n]) y=Go.En.Pl.pr d y:=by
  intro y
  by_cases hy:In' d y
  ·obtain⟨i,m,rfl,hi⟩:=hy.nat
   have hlt:=(List.getElem?_eq_some_iff.1 hi).1
   rw [zbk hi,zbk (by rw [List.getElem?_append_left hlt];exact hi)]
  ·rw [z92 hy]
   by_cases e:y=(d.length:Int)
   ·subst e
    have:(d ++ [mkN n])[d.length]? = some (mkN n):=by simp
    rw [zbk this]
    rfl
   ·exact z92 (by unfold In' at hy;rw [List.length_append];simp only [List.length_cons,List.length_nil];omega)
 have hu:=z5x hp
 have hall:vc (d ++ [mkN n])=vc d:=by
  unfold vc
  rw [List.flatMap_append]
  show _++([] ++ [])=_
  simp
 have get:∀{i:Nat} {m:Nd},(d ++ [mkN n])[i]? = some m→d[i]? = some m∨(i=d.length∧m=mkN n):=by
  intro i m h
  by_cases hlt:i<d.length
  ·rw [List.getElem?_append_left hlt]at h;exact .inl h
  ·have:=(List.getElem?_eq_some_iff.1 h).1
   rw [List.length_append]at this
   simp only [List.length_cons,List.length_nil]at this
   have e:i=d.length:=by omega
   subst e
   simp at h
   exact .inr ⟨rfl,h.symm⟩
 have mem:∀{m:Nd},m∈d ++ [mkN n]→m∈d∨m=mkN n:=by
  intro m h
  rcases List.mem_append.1 h with h | h
  ·exact .inl h
  ·exact .inr (List.mem_singleton.1 h)
 have hlen:(d ++ [mkN n]).length=d.length+1:=by simp
 exact {
  len:=by rw [hlen];omega
  pos:=by rw [hlen];omega
  may:=fun m h=>by
   rcases mem h with h | rfl
   ·exact R.may m h
   ·exact hm
  root:=fun i m h=>by
   rcases get h with h | ⟨rfl,rfl⟩
   ·exact R.root i m h
   ·exact⟨fun h=>absurd h hk,fun h=>by have:=R.pos;omega⟩
  par0:=by rw [hp];exact R.par0
  holds:=fun m h hk'=>by
   rcases mem h with h | rfl
   ·exact R.holds m h hk'
   ·exact absurd rfl hk'
  rng:=fun m h k hk'=>by
   rcases mem h with h | rfl
   ·have:=R.rng m h k hk'
    rw [hlen]
    omega
   ·have:k∈([]:List Int):=hk'
    simp at this
  nodup:=by rw [hall];exact R.nodup
  back:=fun i m h k hk'=>by
   rcases get h with h | ⟨rfl,rfl⟩
   ·rw [hp];exact R.back i m h k hk'
   ·have:k∈([]:List Int):=hk'
    simp at this
  laid:=fun i m h hp'=>by
   rcases get h with h | ⟨rfl,rfl⟩
   ·rw [hall];exact R.laid i m h hp'
   ·exact absurd rfl hp'
  ends:=fun i m h=>by
   rcases get h with h | ⟨rfl,rfl⟩
   ·obtain⟨j,hj,hu'⟩:=R.ends i m h
    exact⟨j,by omega,by rw [hu];exact hu'⟩
   ·exact⟨0,by omega,rfl⟩ }
theorem z96 {d:List Nd} {n:Nd} (h:(mk d n).2.1=0):xf d∧mayB n=true∧n.1≠1∧d.length<300∧(mk d n).1=d.length∧(mk d n).2.2=d ++ [mkN n]:=by
 unfold mk at h ⊢
 by_cases hc:chk d=0
 ·rw [if_pos hc]at h ⊢
  cases hb:(!mayB n||n.1==1) with
  | true=>rw [hb,if_pos rfl]at h;cases h
  | false=>
   rw [hb,if_neg (by simp)]at h
   simp only [Bool.or_eq_false_iff,Bool.not_eq_false',beq_eq_false_iff_ne]at hb
   by_cases hl:300≤d.length
   ·rw [if_pos hl]at h;cases h
   ·rw [if_neg (by simp),if_neg hl]
    exact⟨chk0.1 hc,hb.1,hb.2,by omega,rfl,rfl⟩
 ·rw [if_neg hc]at h
  exact absurd h hc
def newD:List Nd:=[((1:Int),(([]:Bs),(([]:Bs),(([]:List At),((-1:Int),(([]:List Int),(false,false)))))))]
theorem ycw:zsj (Ev.upto 500000000) ((),())=some ((),(newD,())):=by kernel_rfl
theorem yb3 {a b:Nd} (h:Like a b) (h2:gf b=gf a) (h3:zm b=zm a):b=a:=by
 obtain⟨a1,a2,a3,a4,a5,a6,a7⟩:=a
 obtain⟨b1,b2,b3,b4,b5,b6,b7⟩:=b
 obtain⟨e1,e2,e3,e4,e5⟩:=h
 simp only at e1 e2 e3 e4 e5 h2 h3
 subst e1 e2 e3 e4 e5 h2 h3
 rfl
theorem Mv.eq {d a b:List Nd} {P P':Int→Int} {K K':Int→List Int} (A:Mv d a P K) (B:Mv d b P' K') (hp:∀y,In' d y→P y=P' y) (hk:∀y,In' d y→K y=K' y):a=b:=by
 apply List.ext_getElem?
 intro i
 by_cases h:i<d.length
 ·obtain⟨n1,g1,g2,g3,g4⟩:=A.at' i _ (List.getElem?_eq_getElem h)
  obtain⟨n2,k1,k2,k3,k4⟩:=B.at' i _ (List.getElem?_eq_getElem h)
  have hin:In' d i:=⟨by omega,by omega⟩
  rw [g1,k1]
  congr 1
  refine yb3 ?_ (by rw [g3,k3];exact hp _ hin) (by rw [g4,k4];exact hk _ hin)
  exact⟨g2.1.trans k2.1.symm,g2.2.1.trans k2.2.1.symm,g2.2.2.1.trans k2.2.2.1.symm,g2.2.2.2.1.trans k2.2.2.2.1.symm,g2.2.2.2.2.trans k2.2.2.2.2.symm⟩
 ·rw [List.getElem?_eq_none (by rw [A.len];omega),List.getElem?_eq_none (by rw [B.len];omega)]
theorem Mv.trans {d a b:List Nd} {P P':Int→Int} {K K':Int→List Int} (A:Mv d a P K) (B:Mv a b P' K'):Mv d b P' K':=by
 refine⟨B.len.trans A.len,fun i n hi=> ?_⟩
 obtain⟨n1,g1,g2,g3,g4⟩:=A.at' i n hi
 obtain⟨n2,k1,k2,k3,k4⟩:=B.at' i n1 g1
 exact⟨n2,k1,g2.trans k2,k3,k4⟩
theorem z97 {d:List Nd} {q x:Int} (R:xf d) (h1:1≤x) (hx:In' d x) (hq:In' d q) {p:Nd} (hp:idx d q=some p) (hh:za2 p=true) (hb:q∉below d x):puts d q x=(0,putD d q x):=by
 unfold puts
 rw [if_pos (chk0.2 R),if_pos (show (0≤q∧q<(d.length:Int))∧1≤x∧x<(d.length:Int) from ⟨hq,h1,hx.2⟩),hp]
 simp only [hh,if_true]
 rw [if_neg fun h=>hb ((zyc R hq hx).1 h)]
abbrev Tk:=Int×(Bs×(Bs×(List At×Bool)))
abbrev Op:=Int×Bs
def zzz (s:Bs):Bool:=s==([98,114]:Bs)||(s==([104,114]:Bs)||(s==([105,109,103]:Bs)||(s==([105,110,112,117,116]:Bs)||(s==([108,105,110,107]:Bs)||s==([109,101,116,97]:Bs)))))
theorem yb4 (V:Ev) (s:Bs):zbu V ((s,()),())=some ((zzz s,()),()):=by
 unfold zbu zzz
 cases (s==([98,114]:Bs))<;>cases (s==([104,114]:Bs))<;>cases (s==([105,109,103]:Bs))<;>cases (s==([105,110,112,117,116]:Bs))<;>cases (s==([108,105,110,107]:Bs))<;>cases (s==([109,101,116,97]:Bs))<;>rfl
def layD (d:List Nd) (q:Int) (n:Nd):List Nd:=match idx d q with
 | some p=>d.set q.toNat (addK (d.length:Int) p) ++ [reP q (mkN n)]
 | none=>d ++ [mkN n]
def layE (d:List Nd) (n:Nd):Int:=if (!mayB n||n.1==1)=true then 1 else if 300≤d.length then 2 else 0
def inn (k:Int) (nm dt:Bs) (a:List At) (p:Bool):Nd:=(k,(nm,(dt,(a,((0:Int),(([]:List Int),(p,false)))))))
abbrev BS:=List Nd×(List Op×List Fl)
def top (op:List Op):Int:=(op.getLast?.getD (0,[])).1
def fndE (nm:Bs) (op:List Op):Nat→Nat
 | 0=>0
 | i+1=>match op[i+1]? with
  | some o=>if o.2==nm then i+1 else fndE nm op i
  | none=>0
def endS (nm:Bs) (at':Int) (op:List Op) (fl:List Fl):List Op×List Fl:=
 if fndE nm op (op.length-1)=0 then (op,fl ++ [((160:Int),at')]) else (op.take (fndE nm op (op.length-1)),if op.length-fndE nm op (op.length-1)>1 then fl ++ [((162:Int),at')] else fl)
def layS (d:List Nd) (op:List Op) (n:Nd) (r:List Op×List Fl):BS⊕Int:=if layE d n=0 then .inl (layD d (top op) n,r) else .inr (layE d n)
def tokB (par:Bool) (t:Tk) (i:Int) (s:BS):BS⊕Int:=
 if t.1=1 then layS s.1 s.2.1 (inn 3 [] t.2.2.1 [] false) s.2
 else if t.1=4 then layS s.1 s.2.1 (inn 4 [] t.2.2.1 [] false) s.2
 else if t.1=2 then layS s.1 s.2.1 (inn 2 t.2.1 [] t.2.2.2.1 par) (if (t.2.2.2.2||zzz t.2.1)=true then s.2 else if 30≤s.2.1.length then (s.2.1,s.2.2 ++ [((161:Int),i)]) else (s.2.1 ++ [((s.1.length:Int),t.2.1)],s.2.2))
 else if t.1=3 then .inl (s.1,endS t.2.1 i s.2.1 s.2.2)
 else .inl s
def runL (par:Bool):Nat→List Tk→BS→BS⊕Int
 | _,[],s=> .inl s
 | i,t::l,s=>match tokB par t (i:Int) s with
  | .inl s'=>runL par (i+1) l s'
  | .inr e=> .inr e
theorem z7m (d:List Nd) (q:Int) (n:Nd):(layD d q n).length=d.length+1:=by
 unfold layD
 cases idx d q<;>simp
theorem zu3 {d:List Nd} {x:Int} {n:Nd} {l:List Nd} (h:idx d x=some n):idx (d++l) x=some n:=by
 obtain⟨h0,h1,h2⟩:=qy h
 unfold idx
 rw [if_pos h0,List.getElem?_append_left (by omega),h2]
theorem zye (d:List Nd) (n:Nd):idx (d ++ [n]) (d.length:Int)=some n:=by
 unfold idx
 rw [if_pos (by omega),Int.toNat_natCast,List.getElem?_append_right (Nat.le_refl _),Nat.sub_self]
 rfl
theorem z7n {d:List Nd} {q x:Int} {n m:Nd} (h:idx d x=some m) (hne:x≠q):idx (layD d q n) x=some m:=by
 unfold layD
 cases hq:idx d q with
 | none=>exact zu3 h
 | some p=>exact zu3 (by rw [zb8 (qy hq).1 hne];exact h)
theorem z7o {d:List Nd} {q:Int} {n p:Nd} (h:idx d q=some p):idx (layD d q n) q=some (addK (d.length:Int) p):=by
 unfold layD
 rw [h]
 exact zu3 (zel h)
theorem z7p {d:List Nd} {q:Int} {n p:Nd} (h:idx d q=some p):idx (layD d q n) (d.length:Int)=some (reP q (mkN n)):=by
 unfold layD
 rw [h]
 have:=zye (d.set q.toNat (addK (d.length:Int) p)) (reP q (mkN n))
 rw [List.length_set]at this
 exact this
theorem zz0 {d:List Nd} {q x:Int} {n m:Nd} (h:idx d x=some m):∃m',idx (layD d q n) x=some m'∧Like m m'∧gf m'=gf m:=by
 by_cases hx:x=q
 ·subst hx
  exact⟨_,z7o h,⟨rfl,rfl,rfl,rfl,rfl⟩,rfl⟩
 ·exact⟨m,z7n h hx,Like.refl m,rfl⟩
theorem z1a {d:List Nd} (n:Nd):below (d ++ [mkN n]) (d.length:Int) = [(d.length:Int)]:=by
 unfold below
 show _::(ks (d ++ [mkN n]) (d.length:Int)).flatMap _=_
 have:ks (d ++ [mkN n]) (d.length:Int) = []:=by unfold ks;rw [zye];rfl
 rw [this]
 rfl
theorem z7q {d:List Nd} {q:Int} {n p:Nd} (h:idx d q=some p):putD (d ++ [mkN n]) q (d.length:Int)=layD d q n:=by
 obtain⟨h0,h1,h2⟩:=qy h
 have hl:idx (d ++ [mkN n]) (d.length:Int)=some (mkN n):=zye d (mkN n)
 have hpr:pr (d ++ [mkN n]) (d.length:Int) = -1:=by unfold pr;rw [hl];rfl
 have hu:unK (d ++ [mkN n]) (d.length:Int)=d ++ [mkN n]:=by unfold unK;rw [hpr];rfl
 have hs:∀m:Nd,(d ++ [mkN n]).set (d.length:Int).toNat m=d ++ [m]:=by
  intro m
  rw [Int.toNat_natCast,List.set_append_right _ _ (Nat.le_refl _),Nat.sub_self]
  rfl
 have ho:outD (d ++ [mkN n]) (d.length:Int)=d ++ [mkN n]:=by unfold outD;rw [hl,hu];exact hs _
 unfold putD layD
 rw [ho,hl,h]
 simp only [hs]
 rw [zu3 h]
 simp only
 rw [List.set_append_left _ _ (by omega)]
theorem layR {d:List Nd} (R:xf d) {q:Int} {n p:Nd} (h:layE d n=0) (hp:idx d q=some p) (hh:za2 p=true) :
  xf (layD d q n)∧mk d n=((d.length:Int),0,d ++ [mkN n])∧puts (d ++ [mkN n]) q (d.length:Int)=(0,layD d q n):=by
 have hc:=chk0.2 R
 have hmk:mk d n=((d.length:Int),0,d ++ [mkN n]):=by
  unfold mk
  unfold layE at h
  rw [if_pos hc]
  split at h
  ·cases h
  ·rename_i h1
   rw [if_neg h1]
   split at h
   ·cases h
   ·rename_i h2
    rw [if_neg h2]
 have h0:(mk d n).2.1=0:=by rw [hmk]
 obtain⟨_,hm,hk,hl,_,_⟩:=z96 h0
 have R1:=R.made hm hk hl
 obtain⟨q0,q1,_⟩:=qy hp
 have hl1:(d ++ [mkN n]).length=d.length+1:=by simp
 have hx:In' (d ++ [mkN n]) (d.length:Int):=⟨by omega,by rw [hl1];omega⟩
 have hq:In' (d ++ [mkN n]) q:=⟨q0,by rw [hl1];omega⟩
 have hp':idx (d ++ [mkN n]) q=some p:=zu3 hp
 have hpos:=R.pos
 have hb:q∉below (d ++ [mkN n]) (d.length:Int):=by
  rw [z1a]
  simp only [List.mem_singleton]
  omega
 have e:=z7q (n:=n) hp
 refine⟨?_,hmk,?_⟩
 ·rw [←e]
  exact R1.put hx (by omega) hq hp' hh hb
 ·rw [←e]
  exact z97 R1 (by omega) hx hq hp' hh hb
theorem yb5 {d:List Nd} (R:xf d) {n:Nd} (h:layE d n≠0):mk d n=(0,layE d n,[]):=by
 unfold mk
 unfold layE at h ⊢
 rw [if_pos (chk0.2 R)]
 split
 ·rfl
 ·rename_i h1
  rw [if_neg h1]at h
  split
  ·rfl
  ·rename_i h2
   rw [if_neg h2]at h
   exact absurd rfl h
structure IB (i:Nat) (s:BS):Prop where
 R:xf s.1
 sk:Sk 400 s.1
 ne:s.2.1 ≠ []
 le:s.2.1.length≤30
 op:∀o,o∈s.2.1→∃p,idx s.1 o.1=some p∧za2 p=true
 nm:∀(j:Nat) o,s.2.1[j]? = some o→1≤j→∃p,idx s.1 o.1=some p∧p.2.1=o.2
 fl:s.2.2.length≤i
theorem z1b {op:List Op} (h:op ≠ []):∃o,o∈op∧op[op.length-1]? = some o∧top op=o.1:=by
 refine⟨op.getLast h,List.getLast_mem h,?_,?_⟩
 ·rw [←List.getLast?_eq_getElem?]
  exact List.getLast?_eq_some_getLast h
 ·unfold top
  rw [List.getLast?_eq_some_getLast h]
  rfl
theorem xf.kids_le {d:List Nd} (R:xf d) {n:Nd} (hn:n∈d):(zm n).length≤300:=by
 obtain⟨i,hi,rfl⟩:=List.getElem_of_mem hn
 have hg:=List.getElem?_eq_getElem hi
 have e:=zhl hg
 have h1:=R.ks_nodup (i:Int)
 have h2:=zso d.length (ks d (i:Int)) h1 fun k hk=>⟨(R.kid hk).2.1.1,(R.kid hk).2.1.2⟩
 have:=R.len
 rw [←e]
 omega
theorem skR {d:List Nd} (R:xf d) (h:∀n,n∈d→n.2.2.2.1.length≤4000):Sk 400 d:=⟨by have:=R.len;omega,fun n hn=>⟨h n hn,by have:=R.kids_le hn;omega⟩⟩
theorem Sk.lay {c:Nat} {d:List Nd} (h:Sk c d) (hl:d.length<4000) {q:Int} {n:Nd} (h1:n.2.2.2.1.length≤4000):Sk (c+1) (layD d q n):=by
 have hnew:∀q,(reP q (mkN n)).2.2.2.1.length≤4000∧(zm (reP q (mkN n))).length≤c+1:=fun q=>⟨h1,by show ([]:List Int).length≤_;simp⟩
 refine⟨by rw [z7m];omega,fun m hm=> ?_⟩
 unfold layD at hm
 cases hq:idx d q with
 | none=>
  rw [hq]at hm
  rcases List.mem_append.1 hm with hm | hm
  ·have:=h.2 m hm;exact⟨this.1,by omega⟩
  ·rw [List.mem_singleton.1 hm];exact hnew _
 | some p=>
  rw [hq]at hm
  rcases List.mem_append.1 hm with hm | hm
  ·rcases List.mem_or_eq_of_mem_set hm with hm | hm
   ·have:=h.2 m hm;exact⟨this.1,by omega⟩
   ·rw [hm]
    have:=h.2 p (List.mem_of_getElem? (qy hq).2.2)
    refine⟨this.1,?_⟩
    show (zm p ++ [_]).length≤_
    rw [List.length_append]
    simp only [List.length_cons,List.length_nil]
    omega
  ·rw [List.mem_singleton.1 hm];exact hnew _
theorem z52 (nm:Bs) (op:List Op):∀i,fndE nm op i≤i
 | 0=>Nat.le_refl _
 | i+1=>by
  unfold fndE
  split
  ·split
   ·exact Nat.le_refl _
   ·have:=z52 nm op i;omega
  ·omega
theorem IB.laid {i:Nat} {s:BS} (h:IB i s) {n:Nd} (h1:n.2.2.2.1.length≤4000) (hE:layE s.1 n=0) (op':List Op) (fl':List Fl) (hf:fl'.length≤i+1)
  (ho:op'=s.2.1∨op'=s.2.1 ++ [((s.1.length:Int),n.2.1)]∧s.2.1.length<30∧za2 n=true):IB (i+1) (layD s.1 (top s.2.1) n,(op',fl')):=by
 obtain⟨o,hom,_,ht⟩:=z1b h.ne
 obtain⟨p,hp,hh⟩:=h.op o hom
 rw [←ht]at hp
 obtain⟨R',hmk,_⟩:=layR h.R hE hp hh
 have hlen:=h.R.len
 have hop:∀o,o∈s.2.1→∃p,idx (layD s.1 (top s.2.1) n) o.1=some p∧za2 p=true:=fun o ho=>by
  obtain⟨p,hp,hh⟩:=h.op o ho
  obtain⟨p',hp',hl,_⟩:=zz0 (q:=top s.2.1) (n:=n) hp
  exact⟨p',hp',hl.holds.trans hh⟩
 have hnm:∀(j:Nat) o,s.2.1[j]? = some o→1≤j→∃p,idx (layD s.1 (top s.2.1) n) o.1=some p∧p.2.1=o.2:=fun j o hj h1=>by
  obtain⟨p,hp,hn⟩:=h.nm j o hj h1
  obtain⟨p',hp',hl,_⟩:=zz0 (q:=top s.2.1) (n:=n) hp
  exact⟨p',hp',hl.2.1.trans hn⟩
 have hnew:=z7p (n:=n) hp
 rcases ho with ho | ⟨ho,h30,hhn⟩
 ·subst ho
  exact⟨R',skR R' fun m hm=>((h.sk.lay (by omega) h1).2 m hm).1,h.ne,h.le,hop,hnm,hf⟩
 ·subst ho
  refine⟨R',skR R' fun m hm=>((h.sk.lay (by omega) h1).2 m hm).1,by simp,by simp only [List.length_append,List.length_cons,List.length_nil];omega,fun o ho=> ?_,fun j o hj hj1=> ?_,hf⟩
  ·rcases List.mem_append.1 ho with ho | ho
   ·exact hop o ho
   ·rw [List.mem_singleton.1 ho]
    exact⟨_,hnew,hhn⟩
  ·by_cases hlt:j<s.2.1.length
   ·rw [List.getElem?_append_left hlt]at hj
    exact hnm j o hj hj1
   ·rw [List.getElem?_append_right (by omega)]at hj
    have hj0:j-s.2.1.length=0:=by
     have:=(List.getElem?_eq_some_iff.1 hj).1
     simp only [List.length_cons,List.length_nil]at this
     omega
    rw [hj0]at hj
    simp only [List.getElem?_cons_zero,Option.some.injEq]at hj
    rw [←hj]
    exact⟨_,hnew,rfl⟩
theorem IB.end {i:Nat} {s:BS} (h:IB i s) (nm:Bs) (at':Int):IB (i+1) (s.1,endS nm at' s.2.1 s.2.2):=by
 have hf:=h.fl
 unfold endS
 split
 ·exact⟨h.R,h.sk,h.ne,h.le,h.op,h.nm,by simp only [List.length_append,List.length_cons,List.length_nil];omega⟩
 ·rename_i h0
  have hle:=z52 nm s.2.1 (s.2.1.length-1)
  have hne:s.2.1.length≠0:=fun e=>h.ne (List.length_eq_zero_iff.1 e)
  have h30:=h.le
  refine⟨h.R,h.sk,fun e=> ?_,by simp only [List.length_take];omega,fun o ho=>h.op o (List.mem_of_mem_take ho),fun j o hj h1=> ?_,?_⟩
  ·have:=congrArg List.length e
   simp only [List.length_take,List.length_nil]at this
   omega
  ·have hlt:=(List.getElem?_eq_some_iff.1 hj).1
   rw [List.getElem?_take_of_lt (by simp only [List.length_take]at hlt;omega)]at hj
   exact h.nm j o hj h1
  ·show (if _ then _ else _:List Fl).length≤_
   split
   ·simp only [List.length_append,List.length_cons,List.length_nil];omega
   ·omega
theorem IB.mono {i:Nat} {s:BS} (h:IB i s):IB (i+1) s:=⟨h.R,h.sk,h.ne,h.le,h.op,h.nm,by have:=h.fl;omega⟩
theorem IB.step {par:Bool} {t:Tk} {i:Nat} {k:Int} {s s':BS} (h:IB i s) (ht:t.2.2.2.1.length≤50) (e:tokB par t k s = .inl s'):IB (i+1) s':=by
 have hf:=h.fl
 unfold tokB layS at e
 split at e
 ·split at e
  ·rename_i hE
   simp only [Sum.inl.injEq]at e
   rw [←e]
   exact h.laid (by show ([]:List At).length≤_;simp) hE _ _ (show s.2.2.length≤i+1 by omega) (.inl rfl)
  ·cases e
 ·split at e
  ·split at e
   ·rename_i hE
    simp only [Sum.inl.injEq]at e
    rw [←e]
    exact h.laid (by show ([]:List At).length≤_;simp) hE _ _ (show s.2.2.length≤i+1 by omega) (.inl rfl)
   ·cases e
  ·split at e
   ·split at e
    ·rename_i hE
     simp only [Sum.inl.injEq]at e
     rw [←e]
     split
     ·exact h.laid (by show t.2.2.2.1.length≤_;omega) hE _ _ (show s.2.2.length≤i+1 by omega) (.inl rfl)
     ·split
      ·exact h.laid (by show t.2.2.2.1.length≤_;omega) hE _ _ (by simp only [List.length_append,List.length_cons,List.length_nil];omega) (.inl rfl)
      ·exact h.laid (by show t.2.2.2.1.length≤_;omega) hE _ _ (show s.2.2.length≤i+1 by omega) (.inr ⟨rfl,by omega,rfl⟩)
    ·cases e
   ·split at e
    ·simp only [Sum.inl.injEq]at e
     rw [←e]
     exact h.end _ _
    ·simp only [Sum.inl.injEq]at e
     rw [←e]
     exact h.mono
theorem yb6 {n k:Nat} (h:n≤10000) (hk:k≤1000):fits n k=true:=zzu h hk
theorem z7r (V:Ev) (c at':Int) (par:Bool) (d:List Nd) (op:List Op) (fl:List Fl) (h:fl.length≤1000000):yp V ((c,()),((par,(at',())),(d,(op,(fl,())))))=some ((),((par,(at',())),(d,(op,(fl ++ [(c,at')],()))))):=by
 unfold yp
 simp only [z7h (show (fl.length+([(c,at')]:List Fl).length)*16≤10000000000000 by simp;omega),cond_true]
theorem yb7 {n:Nat} (h0:n≠0) (h:n≤1000):IntKind.wrap .i64 ((n:Int)-1)=((n-1:Nat):Int):=by rw [jm (by omega) (by omega)];omega
theorem ltB {a b:Nat} (h:a<b):(decide ((0:Int)≤(a:Int))&&decide ((a:Int)<(b:Int)))=true:=by rw [decide_eq_true (show (0:Int)≤(a:Int) by omega),decide_eq_true (show (a:Int)<(b:Int) by omega)];rfl
theorem ycx (V:Ev) (at':Int) (par:Bool) (d:List Nd) (op:List Op) (fl:List Fl) (h:op ≠ []) (h2:op.length≤1000):∃nm,xd V ((),((par,(at',())),(d,(op,(fl,())))))=some (((top op,nm),()),((par,(at',())),(d,(op,(fl,()))))):=by
 obtain⟨o,_,hg,ht⟩:=z1b h
 have hne:op.length≠0:=fun e=>h (List.length_eq_zero_iff.1 e)
 refine⟨o.2,?_⟩
 unfold xd
 simp only [yb7 hne h2,ltB (show op.length-1<op.length by omega),cond_true,Int.toNat_natCast,hg,Option.bind_some,ht]
theorem ycy {d:List Nd} {n:Nd} (h:Sm d) (hl:d.length<4000) (h1:n.2.2.2.1.length≤4000):Sm (d ++ [mkN n]):=by
 refine⟨by simp;omega,fun m hm=> ?_⟩
 rcases List.mem_append.1 hm with hm | hm
 ·exact h.2 m hm
 ·rw [List.mem_singleton.1 hm]
  exact⟨h1,by show ([]:List Int).length≤_;simp⟩
theorem layP {i:Nat} (hi:i≤900000) {s:BS} (h:IB i s) (n:Nd) (h1:n.2.2.2.1.length≤4000) (par:Bool) (at':Int) :
  y7 (Ev.upto 500000000) ((n,()),((par,(at',())),(s.1,(s.2.1,(s.2.2,())))))=if layE s.1 n=0 then some (((s.1.length:Int),((0:Int),())),((par,(at',())),(layD s.1 (top s.2.1) n,(s.2.1,(s.2.2,()))))) else some (((0:Int),(layE s.1 n,())),((par,(at',())),(s.1,(s.2.1,(s.2.2,()))))):=by
 have hs:Sm s.1:=h.sk.sm (by omega)
 have hlen:=h.R.len
 unfold y7
 simp only [Option.bind_some,z93 s.1 n hs h1,decide_true,if_true]
 by_cases hE:layE s.1 n=0
 ·obtain⟨o,hom,_,ht⟩:=z1b h.ne
  obtain⟨p,hp,hh⟩:=h.op o hom
  rw [←ht]at hp
  obtain⟨R',hmk,hput⟩:=layR h.R hE hp hh
  obtain⟨nm,htop⟩:=ycx (Ev.upto 500000000) at' par s.1 s.2.1 s.2.2 h.ne (by have:=h.le;omega)
  rw [if_pos hE,hmk]
  simp only [bne_self_eq_false,cond_false,htop,Option.bind_some]
  rw [ybz _ _ _ (ycy hs (by omega) h1),hput]
  simp only [Option.bind_some,beq_self_eq_true,cond_true]
 ·rw [if_neg hE,yb5 h.R hE]
  simp only [bne_iff_ne.2 hE,cond_true]
theorem ycz {i:Nat} (hi:i≤900000) {s:BS} (h:IB i s) (t:Tk) (par:Bool) (at':Int):kd (Ev.upto 500000000) ((t,()),((par,(at',())),(s.1,(s.2.1,(s.2.2,())))))=match layS s.1 s.2.1 (inn 3 [] t.2.2.1 [] false) s.2 with
  | .inl s'=>some (((0:Int),()),((par,(at',())),(s'.1,(s'.2.1,(s'.2.2,())))))
  | .inr e=>some ((e,()),((par,(at',())),(s.1,(s.2.1,(s.2.2,()))))):=by
 unfold kd
 have:=layP hi h (inn 3 [] t.2.2.1 [] false) (by show ([]:List At).length≤_;simp) par at'
 unfold inn at this ⊢
 simp only [this]
 unfold layS
 split
 ·simp only [Option.bind_some]
 ·simp only [Option.bind_some]
theorem z7s {i:Nat} (hi:i≤900000) {s:BS} (h:IB i s) (t:Tk) (par:Bool) (at':Int):qx (Ev.upto 500000000) ((t,()),((par,(at',())),(s.1,(s.2.1,(s.2.2,())))))=match layS s.1 s.2.1 (inn 4 [] t.2.2.1 [] false) s.2 with
  | .inl s'=>some (((0:Int),()),((par,(at',())),(s'.1,(s'.2.1,(s'.2.2,())))))
  | .inr e=>some ((e,()),((par,(at',())),(s.1,(s.2.1,(s.2.2,()))))):=by
 unfold qx
 have:=layP hi h (inn 4 [] t.2.2.1 [] false) (by show ([]:List At).length≤_;simp) par at'
 unfold inn at this ⊢
 simp only [this]
 unfold layS
 split
 ·simp only [Option.bind_some]
 ·simp only [Option.bind_some]
theorem z98 {i:Nat} (hi:i≤900000) {s:BS} (h:IB i s) (t:Tk) (ht:t.2.2.2.1.length≤50) (par:Bool) (at':Int):jp (Ev.upto 500000000) ((t,()),((par,(at',())),(s.1,(s.2.1,(s.2.2,())))))=match layS s.1 s.2.1 (inn 2 t.2.1 [] t.2.2.2.1 par) (if (t.2.2.2.2||zzz t.2.1)=true then s.2 else if 30≤s.2.1.length then (s.2.1,s.2.2 ++ [((161:Int),at')]) else (s.2.1 ++ [((s.1.length:Int),t.2.1)],s.2.2)) with
  | .inl s'=>some (((0:Int),()),((par,(at',())),(s'.1,(s'.2.1,(s'.2.2,())))))
  | .inr e=>some ((e,()),((par,(at',())),(s.1,(s.2.1,(s.2.2,()))))):=by
 unfold jp
 have hl:=layP hi h (inn 2 t.2.1 [] t.2.2.2.1 par) (by show t.2.2.2.1.length≤_;omega) par at'
 have hle:=h.le
 have hf:=h.fl
 unfold inn at hl ⊢
 simp only [hl]
 unfold layS
 split
 ·simp only [Option.bind_some,bne_self_eq_false,beq_self_eq_true,cond_true,yb4 (Ev.upto 500000000) t.2.1]
  cases hc:t.2.2.2.2 with
  | true=>simp only [Bool.true_beq,cond_false,Option.bind_some,cond_true,Bool.true_or,if_true]
  | false=>
   simp only [beq_self_eq_true,cond_true,Option.bind_some,Bool.false_or]
   cases hv:zzz t.2.1 with
   | true=>simp only [cond_true,if_true,Option.bind_some]
   | false=>
    simp only [cond_false,Bool.false_eq_true,if_false]
    have hge:decide ((s.2.1.length:Int)≥30)=decide (30≤s.2.1.length):=ybv s.2.1.length 30
    simp only [hge]
    by_cases h30:30≤s.2.1.length
    ·simp only [decide_eq_true h30,cond_true,z7r (Ev.upto 500000000) 161 at' par _ s.2.1 s.2.2 (by omega),Option.bind_some,if_pos h30]
    ·unfold yi
     simp only [decide_eq_false h30,cond_false,yb6 (show s.2.1.length+([((s.1.length:Int),t.2.1)]:List Op).length≤10000 by simp;omega) (show 24≤1000 by omega),cond_true,Option.bind_some,if_neg h30]
 ·rename_i hE
  simp only [Option.bind_some,bne_iff_ne.2 hE,Bool.true_beq,cond_false,cond_true]
theorem z99 {α β γ:Type} {f:α→Option (α⊕β)} {a0:α} {k:β→Option γ} {r:Option γ} (nm:Bs) (op:List Op) (st:Int→α) (hit:Nat→β) (fin:β) (N n:Nat) (hn:n<op.length) (hN:n<N) (ha:a0=st n)
  (h0:f (st 0)=some (.inr fin)) (h1:∀(j:Nat) (o:Op),1≤j→op[j]? = some o→f (st (j:Int))=some (if (o.2==nm)=true then .inr (hit j) else .inl (st ((j:Int)-1)))) (hr:k (if fndE nm op n=0 then fin else hit (fndE nm op n))=r):((Ev.upto N).it f a0).bind k=r:=by
 have key:∀n N,n<op.length→n<N→bp f N (st n)=some (if fndE nm op n=0 then fin else hit (fndE nm op n)):=by
  intro n
  induction n with
  | zero=>
   intro N _ hN
   obtain⟨N,rfl⟩:∃m,N=m+1:=⟨N-1,by omega⟩
   unfold bp
   show (f (st 0)).bind _=_
   rw [h0]
   rfl
  | succ n ih=>
   intro N hn hN
   obtain⟨N,rfl⟩:∃m,N=m+1:=⟨N-1,by omega⟩
   unfold bp
   rw [h1 (n+1) op[n+1] (by omega) (List.getElem?_eq_getElem hn)]
   unfold fndE
   rw [List.getElem?_eq_getElem hn]
   simp only [Option.bind_some]
   cases hb:(op[n+1].2==nm) with
   | true=>simp
   | false=>
    simp only [Bool.false_eq_true,if_false]
    rw [show ((n+1:Nat):Int)-1=(n:Int) by omega]
    exact ih N (by omega) (by omega)
 rw [ha]
 show (bp f N (st n)).bind k=r
 rw [key n N hn hN]
 exact hr
theorem yb8 {α:Type} {l:List α} {b:Nat} (h:b≤l.length):sl l 0 (b:Int)=some (l.take b):=by
 have:=zeh (l:=l) (Nat.zero_le b) h
 simpa using this
theorem yb9 {i:Nat} (hi:i≤900000) {s:BS} (h:IB i s) (t:Tk) (par:Bool) (at':Int):ky (Ev.upto 500000000) ((t,()),((par,(at',())),(s.1,(s.2.1,(s.2.2,())))))=some (((0:Int),()),((par,(at',())),(s.1,((endS t.2.1 at' s.2.1 s.2.2).1,((endS t.2.1 at' s.2.1 s.2.2).2,()))))):=by
 have hle:=h.le
 have hf:=h.fl
 have hne:s.2.1.length≠0:=fun e=>h.ne (List.length_eq_zero_iff.1 e)
 unfold ky
 simp only [Option.bind_some]
 refine z99 t.2.1 s.2.1 (fun j=>((j,()),((par,(at',())),((t,()),(s.1,(s.2.1,(s.2.2,()))))))) (fun j=> .inr (((0:Int),()),((par,(at',())),(s.1,(s.2.1.take j,((if s.2.1.length-j>1 then s.2.2 ++ [((162:Int),at')] else s.2.2),())))))) (.inl ((),((par,(at',())),(s.1,(s.2.1,(s.2.2,())))))) 500000000 (s.2.1.length-1) (by omega) (by omega) (by rw [yb7 hne (by omega)]) ?_ ?_ ?_
 ·rfl
 ·intro j o h1 hj
  have hlt:=(List.getElem?_eq_some_iff.1 hj).1
  simp only [decide_eq_true (show (j:Int)>0 by omega),cond_true,ltB hlt,Int.toNat_natCast,hj,Option.bind_some]
  cases hb:(o.2==t.2.1) with
  | false=>simp only [cond_false,Bool.false_eq_true,if_false,jm (show -9223372036854775808≤(j:Int)-1 by omega) (show (j:Int)-1≤9223372036854775807 by omega)]
  | true=>
   unfold qi
   simp only [cond_true,if_true,yb8 (show j≤s.2.1.length by omega),Option.bind_some,jm (show -9223372036854775808≤(s.2.1.length:Int)-(j:Int) by omega) (show (s.2.1.length:Int)-(j:Int)≤9223372036854775807 by omega)]
   by_cases hg:s.2.1.length-j>1
   ·simp only [decide_eq_true (show (s.2.1.length:Int)-(j:Int)>1 by omega),cond_true,z7r (Ev.upto 500000000) 162 at' par _ _ s.2.2 (by omega),Option.bind_some,if_pos hg]
   ·simp only [decide_eq_false (show ¬(s.2.1.length:Int)-(j:Int)>1 by omega),cond_false,Option.bind_some,if_neg hg]
 ·unfold endS
  by_cases h0:fndE t.2.1 s.2.1 (s.2.1.length-1)=0
  ·rw [if_pos h0,if_pos h0]
   simp only [z7r (Ev.upto 500000000) 160 at' par _ s.2.1 s.2.2 (by omega),Option.bind_some]
  ·rw [if_neg h0,if_neg h0]
noncomputable def z3e (d:List Nd) (x:Int) (l:List Tk) (par:Bool):Int×List Nd×List Fl:=
 if chk d=0 then (match idx d x with
  | some p=>if p.1≤2 then (match runL par 0 l (d,([(x,[])],[])) with
   | .inl s=>(0,s.1,if s.2.1.length>1 then s.2.2 ++ [((162:Int),(l.length:Int))] else s.2.2)
   | .inr e=>(e,[],[])) else (170,[],[])
  | none=>(170,[],[])) else (chk d,[],[])
def TkOk (t:Tk):Prop:=t.2.1.length≤5000∧t.2.2.1.length≤400000000∧t.2.2.2.1.length≤50∧∀a,a∈t.2.2.2.1→a.1.length≤5000∧a.2.length≤20000
def z54 (l:List Tk):Prop:=l.length≤20000∧∀t,t∈l→TkOk t
theorem IB.first {d:List Nd} (R:xf d) (h:z05 d) {x:Int} {p:Nd} (hp:idx d x=some p) (h2:p.1≤2):IB 0 (d,([(x,[])],[])):=by
 have hm:=R.may p (List.mem_of_getElem? (qy hp).2.2)
 refine⟨R,h.sk,by simp,by simp,fun o ho=> ?_,fun j o hj h1=> ?_,by simp⟩
 ·rw [List.mem_singleton.1 ho]
  refine⟨p,hp,?_⟩
  unfold za2
  unfold mayB at hm
  by_cases h:p.1=2
  ·simp [h]
  ·rw [if_neg h]at hm
   simp only [Bool.and_eq_true,decide_eq_true_eq]at hm
   have:p.1=1:=by omega
   simp [this]
 ·have:=(List.getElem?_eq_some_iff.1 hj).1
  simp only [List.length_cons,List.length_nil]at this
  omega
theorem z2i {β:Type} (par:Bool) (err:Int→β) (fin:BS→β):∀(l:List Tk) (i:Nat) (s:BS),zbz (fun (i:Nat) (t:Tk) (s:BS)=>(match tokB par t (i:Int) s with | .inl s'=> .inl s' | .inr e=> .inr (err e):BS⊕β)) fin i l s=match runL par i l s with
  | .inl s'=>fin s'
  | .inr e=>err e
 | [],i,s=>rfl
 | t::l,i,s=>by
  unfold zbz runL
  cases h:tokB par t (i:Int) s with
  | inl s'=>exact z2i par err fin l (i+1) s'
  | inr e=>rfl
theorem zyf {d:List Nd} {op:List Op} {n:Nd} {r:List Op×List Fl} {e:Int} (h:layS d op n r = .inr e):e≠0:=by
 unfold layS at h
 split at h
 ·cases h
 ·simp only [Sum.inr.injEq]at h;rw [←h];assumption
theorem z55 {par:Bool}:∀{l:List Tk},z54 l→∀(i:Nat) {s s':BS},IB i s→i+l.length≤900000→runL par i l s = .inl s'→IB (i+l.length) s'
 | [],_,i,s,s',h,_,e=>by
  unfold runL at e
  simp only [Sum.inl.injEq]at e
  rw [←e]
  exact h
 | t::l,hl,i,s,s',h,hi,e=>by
  unfold runL at e
  cases hT:tokB par t (i:Int) s with
  | inr e'=>rw [hT]at e;cases e
  | inl s2=>
   rw [hT]at e
   have ht:=hl.2 t (List.mem_cons_self ..)
   have:=z55 (l:=l) ⟨by have:=hl.1;simp only [List.length_cons]at this;omega,fun a ha=>hl.2 a (List.mem_cons_of_mem _ ha)⟩ (i+1) (h.step ht.2.2.1 hT) (by simp only [List.length_cons]at hi;omega) e
   rw [show i+(t::l).length=i+1+l.length by simp only [List.length_cons];omega]
   exact this
theorem yc0 (V:Ev) (k:Int) (par:Bool) (at':Int) (d:List Nd) (op:List Op) (fl:List Fl):kc V ((k,()),((par,(at',())),(d,(op,(fl,())))))=some (((if k=1 then 0 else if k=4 then 1 else if k=2 then 2 else if k=3 then 3 else 4:Nat),()),((par,(at',())),(d,(op,(fl,()))))):=by
 unfold kc
 by_cases h1:k=1
 ·subst h1;rfl
 ·by_cases h4:k=4
  ·subst h4;rfl
  ·by_cases h2:k=2
   ·subst h2;rfl
   ·by_cases h3:k=3
    ·subst h3;rfl
    ·simp only [beq_eq_false_iff_ne.2 h1,beq_eq_false_iff_ne.2 h2,beq_eq_false_iff_ne.2 h3,beq_eq_false_iff_ne.2 h4,cond_false,if_neg h1,if_neg h2,if_neg h3,if_neg h4]
theorem yaa (d:List Nd) (x:Int) (l:List Tk) (par:Bool) (hd:z05 d) (hl:z54 l):zf2 (Ev.upto 500000000) ((d,(x,(l,(par,())))),())=some (((z3e d x l par).1,()),((z3e d x l par).2.1,((z3e d x l par).2.2,()))):=by
 have hs:=hd.sm
 have hl1:=hl.1
 unfold zf2 z3e
 simp only [zpn d hs,Option.bind_some]
 by_cases hc:chk d=0
 ·have R:=chk0.1 hc
  rw [if_pos hc]
  simp only [hc,bne_self_eq_false,cond_false]
  by_cases hx:In' d x
  ·obtain⟨p,hp,hg⟩:=zmd hx.1 hx.2
   simp only [decide_eq_false (show ¬x<0 by have:=hx.1;omega),decide_eq_false (show ¬x≥(d.length:Int) by have:=hx.2;omega),beq_self_eq_true,cond_true,hp,Option.bind_some]
   by_cases h2:p.1≤2
   ·rw [if_pos h2]
    simp only [decide_eq_false (show ¬p.1>2 by omega),cond_false,z8i d hs.1,Option.bind_some]
    refine zbp (l:=d) (σ:=Unit) (fun i _=>((x,(l,(par,((d.length:Int),((i:Int),()))))),((),((),((2*i,d),()))))) (fun _ _ _=> .inl ()) (fun _=>((x,(l,(par,()))),((),((),((2*d.length,d),()))))) (fun _ _=>True) () rfl trivial (by have:=hs.1;omega) (fun i s hi _=>⟨?_,fun _ _=>trivial⟩) (fun s _=> ?_) ?_
    ·have hm:=hs.2 _ (List.getElem_mem hi)
     have:=hs.1
     have e1:d.set ((i:Nat):Int).toNat (d[i].1,(d[i].2.1,(d[i].2.2.1,(d[i].2.2.2.1,d[i].2.2.2.2))))=d:=zya hi
     have e2:d.set ((i:Nat):Int).toNat (d[i].1,(d[i].2.1,(d[i].2.2.1,(d[i].2.2.2.1,(d[i].2.2.2.2.1,(d[i].2.2.2.2.2.1,d[i].2.2.2.2.2.2))))))=d:=zya hi
     simp only [zek,decide_eq_true hi,cond_true,decide_eq_true (show (0:Int)≤(i:Int) by omega),Bool.and_self,getN hi,Option.bind_some,ybr,ybs,ybt,Nat.le_refl,decide_true,beq_self_eq_true,z5w _ hm.1,z8h _ hm.2,e1,e2,zgj (show i<1000000 by omega)]
     simp only [Int.toNat_natCast,Nat.le_refl,decide_true,beq_self_eq_true,cond_true]
     rfl
    ·simp only [zek,Nat.lt_irrefl,decide_false,cond_false]
    ·rw [zuw _ _ _ _ (fun _ _=>rfl)]
     simp only [ybu,beq_self_eq_true,cond_true]
     unfold yi
     simp only [yb6 (show ([]:List Op).length+([(x,([]:Bs))]:List Op).length≤10000 by simp) (show 24≤1000 by omega),cond_true,Option.bind_some,List.nil_append]
     refine zbp (l:=l) (σ:=BS) (fun i s=>((l,(l,((l.length:Int),((i:Int),())))),((),((par,(((i-1:Nat):Int),())),(s.1,(s.2.1,(s.2.2,()))))))) (fun i t s=>match tokB par t (i:Int) s with | .inl s'=> .inl s' | .inr e=> .inr (.inr ((e,()),((),())))) (fun s=> .inl ((l,()),((),((par,(((l.length-1:Nat):Int),())),(s.1,(s.2.1,(s.2.2,()))))))) (fun i s=>IB i s) (d,([(x,[])],[])) rfl (IB.first R hd hp h2) (by omega) (fun i s hi hI=>⟨?_,fun s' e=> ?_⟩) (fun s _=> ?_) ?_
     ·have ht:=hl.2 _ (List.getElem_mem hi)
      have hi':i≤900000:=by omega
      simp only [zek,decide_eq_true hi,cond_true,jv hi,Option.bind_some,yc0 (Ev.upto 500000000) l[i].1 par (i:Int) s.1 s.2.1 s.2.2]
      unfold tokB
      by_cases k1:l[i].1=1
      ·have:=ycz hi' hI l[i] par (i:Int)
       simp only [if_pos k1]
       rw [this]
       cases hL:layS s.1 s.2.1 (inn 3 [] l[i].2.2.1 [] false) s.2 with
       | inl s'=>
        simp only [show decide ((0:Nat)<4)=true from rfl,beq_self_eq_true,cond_true,Option.bind_some,bne_self_eq_false,cond_false,zgj (show i<1000000 by omega)]
        rfl
       | inr e=>simp only [show decide ((0:Nat)<4)=true from rfl,beq_self_eq_true,cond_true,Option.bind_some,bne_iff_ne.2 (zyf hL)]
      ·by_cases k4:l[i].1=4
       ·have:=z7s hi' hI l[i] par (i:Int)
        simp only [if_neg k1,if_pos k4]
        rw [this]
        cases hL:layS s.1 s.2.1 (inn 4 [] l[i].2.2.1 [] false) s.2 with
        | inl s'=>
         simp only [show decide ((1:Nat)<4)=true from rfl,show ((1:Nat)==0)=false from rfl,show ((1-1:Nat)==0)=true from rfl,cond_true,cond_false,Option.bind_some,bne_self_eq_false,zgj (show i<1000000 by omega)]
         rfl
        | inr e=>simp only [show decide ((1:Nat)<4)=true from rfl,show ((1:Nat)==0)=false from rfl,show ((1-1:Nat)==0)=true from rfl,cond_true,cond_false,Option.bind_some,bne_iff_ne.2 (zyf hL)]
       ·by_cases k2:l[i].1=2
        ·have:=z98 hi' hI l[i] ht.2.2.1 par (i:Int)
         simp only [if_neg k1,if_neg k4,if_pos k2]
         rw [this]
         cases hL:layS s.1 s.2.1 (inn 2 l[i].2.1 [] l[i].2.2.2.1 par) (if (l[i].2.2.2.2||zzz l[i].2.1)=true then s.2 else if 30≤s.2.1.length then (s.2.1,s.2.2 ++ [((161:Int),(i:Int))]) else (s.2.1 ++ [((s.1.length:Int),l[i].2.1)],s.2.2)) with
         | inl s'=>
          simp only [show decide ((2:Nat)<4)=true from rfl,show ((2:Nat)==0)=false from rfl,show ((2-1:Nat)==0)=false from rfl,show ((2-1-1:Nat)==0)=true from rfl,cond_true,cond_false,Option.bind_some,bne_self_eq_false,zgj (show i<1000000 by omega)]
          rfl
         | inr e=>simp only [show decide ((2:Nat)<4)=true from rfl,show ((2:Nat)==0)=false from rfl,show ((2-1:Nat)==0)=false from rfl,show ((2-1-1:Nat)==0)=true from rfl,cond_true,cond_false,Option.bind_some,bne_iff_ne.2 (zyf hL)]
        ·by_cases k3:l[i].1=3
         ·have:=yb9 hi' hI l[i] par (i:Int)
          simp only [if_neg k1,if_neg k4,if_neg k2,if_pos k3]
          rw [this]
          simp only [show decide ((3:Nat)<4)=true from rfl,show ((3:Nat)==0)=false from rfl,show ((3-1:Nat)==0)=false from rfl,show ((3-1-1:Nat)==0)=false from rfl,show ((3-1-1-1:Nat)==0)=true from rfl,cond_true,cond_false,Option.bind_some,bne_self_eq_false,zgj (show i<1000000 by omega)]
          rfl
         ·simp only [if_neg k1,if_neg k4,if_neg k2,if_neg k3,show decide ((4:Nat)<4)=false from rfl,cond_false,Option.bind_some,zgj (show i<1000000 by omega)]
          rfl
     ·have ht:=hl.2 _ (List.getElem_mem hi)
      cases hT:tokB par l[i] (i:Int) s with
      | inr e'=>rw [hT]at e;cases e
      | inl s2=>
       rw [hT]at e
       simp only [Sum.inl.injEq]at e
       rw [←e]
       exact hI.step ht.2.2.1 hT
     ·simp only [zek,Nat.lt_irrefl,decide_false,cond_false]
     ·rw [z2i]
      cases hr:runL par 0 l (d,([(x,[])],[])) with
      | inr e=>rfl
      | inl s=>
       have hI:=z55 hl 0 (IB.first R hd hp h2) (by omega) hr
       have hf:=hI.fl
       simp only
       by_cases hg:s.2.1.length>1
       ·simp only [decide_eq_true (show (s.2.1.length:Int)>1 by omega),cond_true,z7r (Ev.upto 500000000) 162 (l.length:Int) par _ _ s.2.2 (by omega),Option.bind_some,if_pos hg]
       ·simp only [decide_eq_false (show ¬(s.2.1.length:Int)>1 by omega),cond_false,Option.bind_some,if_neg hg]
   ·rw [if_neg h2]
    simp only [decide_eq_true (show p.1>2 by omega),cond_true]
  ·rw [z7l hx]
   by_cases h0:x<0
   ·simp only [decide_eq_true h0,Bool.true_beq,cond_false,Option.bind_some,cond_true]
   ·have h1:x≥(d.length:Int):=by unfold In' at hx;omega
    simp only [decide_eq_false h0,decide_eq_true h1,beq_self_eq_true,Bool.true_beq,Option.bind_some,cond_true,cond_false]
 ·rw [if_neg hc]
  simp only [bne_iff_ne.2 hc,cond_true]
def NdP (n:Nd):Prop:=n.2.1.length≤5000∧n.2.2.1.length≤400000000∧n.2.2.2.1.length≤50∧n.2.2.2.2.2.1.length≤400∧∀a,a∈n.2.2.2.1→a.1.length≤5000∧a.2.length≤20000
def DocP (d:List Nd):Prop:=d.length≤310∧∀n,n∈d→NdP n
theorem DocP.sm {d:List Nd} (h:DocP d):Sm d:=⟨by have:=h.1;omega,fun n hn=>by have:=h.2 n hn;unfold NdP at this;omega⟩
def z7t (d:List Nd) (x:Int):Bool:=match idx d x with
 | some n=>n.2.1==([115,99,114,105,112,116]:Bs)||n.2.1==([115,116,121,108,101]:Bs)
 | none=>false
def tagT (n:Nd):Tok:=((2:Int),(n.2.1,(([]:Bs),(n.2.2.2.1,false))))
def prt (d:List Nd):Nat→Int→Bs
 | 0,_=>[]
 | f+1,x=>match idx d x with
  | some n=>if n.1=3 then (if z7t d (gf n)=true then n.2.2.1 else enc n.2.2.1) else if n.1=4 then [60,33,45,45]++n.2.2.1 ++ [45,45,62] else if n.1=2 then zky (tagT n)++(if zzz n.2.1=true then [] else (zm n).flatMap (prt d f)++([60,47]++n.2.1 ++ [62])) else (zm n).flatMap (prt d f)
  | none=>[]
theorem yc1 (V:Ev) (d:List Nd) (x:Int) (hx:x = -1∨In' d x):zf8 V ((d,(x,())),())=some ((z7t d x,()),()):=by
 unfold zf8 z7t
 rcases hx with rfl | hx
 ·rfl
 ·obtain⟨n,hn,_⟩:=zmd hx.1 hx.2
  simp only [decide_eq_true (show x≥0 from hx.1),beq_self_eq_true,cond_true,hn,Option.bind_some]
  cases (n.2.1==([115,99,114,105,112,116]:Bs))<;>cases (n.2.1==([115,116,121,108,101]:Bs))<;>rfl
theorem sfW {n:Nat} (h:n≤10000000000000):zx n=true:=decide_eq_true (Nat.le_trans h (by decide))
theorem wsW (V:Ev) (x acc:Bs) (h:acc.length+x.length≤10000000000000):za V ((x,()),((),(ofBs acc,())))=some ((((x.length:Int)),(false,())),((),(ofBs (acc++x),()))):=by
 unfold za zc
 have:fits ((ofBs acc).length+x.length) 1=true:=decide_eq_true (Nat.le_trans (by rw [zn,Nat.mul_one];exact h) (by decide))
 simp only [Option.bind_some,this,cond_true,kg]
theorem yca {n:Nd} (h:NdP n):okT (tagT n):=by
 unfold NdP at h
 exact⟨h.1,by show ([]:Bs).length≤400000000;simp,by show n.2.2.2.1.length≤50;omega,fun a ha=>h.2.2.2.2 a ha⟩
theorem z8l {n:Nd} (h:NdP n):(zky (tagT n)).length≤3000000000:=by
 have:=zx9 (c:=false) (yca h)
 exact this
theorem zyg (c:Nat) (g:Int→Bs) (h:Int→List Int):∀l:List Int,(∀k,k∈l→(g k).length≤c*(h k).length)→(l.flatMap g).length≤c*(l.flatMap h).length
 | [],_=>by simp
 | a::l,hl=>by
  have h1:=hl a (List.mem_cons_self ..)
  have h2:=zyg c g h l fun k hk=>hl k (List.mem_cons_of_mem _ hk)
  rw [List.flatMap_cons,List.flatMap_cons,List.length_append,List.length_append,Nat.mul_add]
  omega
theorem z56 {d:List Nd} (hd:DocP d):∀(f:Nat) (x:Int),(prt d f x).length≤4000000000*(dn d f x).length
 | 0,x=>by simp [prt]
 | f+1,x=>by
  unfold prt dn
  cases hn:idx d x with
  | none=>simp
  | some n=>
   have hok:=hd.2 n (List.mem_of_getElem? (qy hn).2.2)
   have ht:=z8l hok
   unfold NdP at hok
   have hks:ks d x=zm n:=by unfold ks;rw [hn]
   have hk:=zyg 4000000000 (prt d f) (dn d f) (zm n) fun k _=>z56 hd f k
   have he:=zn4 n.2.2.1
   rw [hks]
   simp only [List.length_cons]
   split
   ·split<;>omega
   ·split
    ·simp only [List.length_append,List.length_cons,List.length_nil];omega
    ·split
     ·rw [List.length_append]
      split
      ·simp only [List.length_nil];omega
      ·simp only [List.length_append,List.length_cons,List.length_nil];omega
     ·omega
theorem zyh {d:List Nd} (hd:DocP d) (f:Nat) (l:List Int):(l.flatMap (prt d f)).length≤4000000000*(l.flatMap (dn d f)).length:=zyg 4000000000 (prt d f) (dn d f) l fun k _=>z56 hd f k
theorem ycb (d:List Nd) (R:xf d) (hd:DocP d):∀(f m:Nat) (x:Int) (acc:Bs),f≤m→okD d f x→In' d x→acc.length+4000000000*(dn d f x).length≤2000000000000→vr (Ev.upto 500000000) m ((d,(x,())),((),(ofBs acc,())))=some ((),((),(ofBs (acc++prt d f x),()))):=by
 intro f
 induction f with
 | zero=>intro m x acc _ h;exact h.elim
 | succ f ih=>
  intro m x acc hm ho hx hl
  obtain⟨m,rfl⟩:∃k,m=k+1:=⟨m-1,by omega⟩
  obtain⟨n,hn,hg⟩:=zmd hx.1 hx.2
  have hok:=hd.2 n (List.mem_of_getElem? hg)
  have ht:=z8l hok
  have hto:=yca hok
  unfold NdP at hok
  have hkl:(zm n).length≤400:=hok.2.2.2.1
  have hks:ks d x=zm n:=by unfold ks;rw [hn]
  have hin':∀k,k∈zm n→In' d k:=fun k hk=>(R.kid (x:=x) (hks.symm▸hk)).2.1
  have ho':∀k,k∈zm n→okD d f k:=fun k hk=>ho k (hks▸hk)
  have hpar:gf n = -1∨In' d (gf n):=by
   have:=R.cl x hx.1 hx.2
   unfold pr at this
   rw [hn]at this
   exact this
  have he:=zn4 n.2.2.1
  unfold dn at hl
  rw [hks]at hl
  simp only [List.length_cons]at hl
  unfold prt vr zbo
  simp only [hn,Option.bind_some]
  have hplAll:=zyh hd f (zm n)
  by_cases h3:n.1=3
  ·simp only [h3,beq_self_eq_true,cond_true,yc1 (Ev.upto 500000000) d (gf n) hpar,Option.bind_some,if_true]
   cases hc:z7t d (gf n) with
   | true=>
    simp only [Bool.not_true,cond_false,Option.bind_some,wsW (Ev.upto 500000000) n.2.2.1 acc (by omega),if_true]
   | false=>
    simp only [Bool.not_false,cond_true,zuv 500000000 n.2.2.1 (by omega) (by omega),Option.bind_some,wsW (Ev.upto 500000000) (enc n.2.2.1) acc (by omega),Bool.false_eq_true,if_false]
  rw [if_neg h3]
  simp only [beq_eq_false_iff_ne.2 h3,cond_false]
  by_cases h4:n.1=4
  ·simp only [h4,beq_self_eq_true,cond_true,if_true,sfW (show ([60,33,45,45]:Bs).length+n.2.2.1.length≤10000000000000 by simp;omega),sfW (show (([60,33,45,45]:Bs)++n.2.2.1).length+([45,45,62]:Bs).length≤10000000000000 by simp;omega),wsW (Ev.upto 500000000) (([60,33,45,45]:Bs)++n.2.2.1 ++ [45,45,62]) acc (by simp;omega),Option.bind_some]
  rw [if_neg h4]
  simp only [beq_eq_false_iff_ne.2 h4,cond_false]
  by_cases h2:n.1=2
  ·have hp:zb3 (Ev.upto 500000000) (([((2:Int),(n.2.1,(([]:Bs),(n.2.2.2.1,false))))],()),())=some ((zky (tagT n),()),()):=z7k 500000000 [tagT n] (by simp) (by simpa using hto) (by omega)
   rw [if_pos h2]
   simp only [h2,beq_self_eq_true,cond_true]
   rw [hp]
   simp only [Option.bind_some,wsW (Ev.upto 500000000) (zky (tagT n)) acc (by omega),yb4 (Ev.upto 500000000) n.2.1]
   cases hv:zzz n.2.1 with
   | true=>simp only [cond_true,Option.bind_some,if_true,List.append_nil]
   | false=>
    simp only [cond_false,Option.bind_some,Bool.false_eq_true,if_false]
    refine zbp (l:=zm n) (σ:=Bs) (fun i s=>((zm n,((zm n).length,((i:Int),()))),((),((d,()),((n,()),(ofBs s,())))))) (fun _ k s=> .inl (s++prt d f k)) (fun s=>((),((),((n,()),(ofBs s,()))))) (fun i s=>s=(acc++zky (tagT n))++((zm n).take i).flatMap (prt d f)) ((acc++zky (tagT n))) rfl (by simp) (by omega) (fun i s hi hs=>⟨?_,fun s' e=> ?_⟩) (fun s _=> ?_) ?_
    ·have hk:(zm n)[i]∈zm n:=List.getElem_mem hi
     have hle:=z08 (dn d f) (zm n) i hi
     have hpl:=zyh hd f ((zm n).take i)
     simp only [zek,decide_eq_true hi,cond_true,jv hi,Option.bind_some,zgj (show i<1000000 by omega)]
     rw [ih m _ s (by omega) (ho' _ hk) (hin' _ hk) (by rw [hs];simp only [List.length_append];omega)]
     rfl
    ·simp only [Sum.inl.injEq]at e
     rw [←e,hs,List.append_assoc,zu1]
    ·simp only [zek,Nat.lt_irrefl,decide_false,cond_false]
    ·rw [zq1]
     simp only [h2,beq_self_eq_true,cond_true,sfW (show ([60,47]:Bs).length+n.2.1.length≤10000000000000 by simp;omega),sfW (show (([60,47]:Bs)++n.2.1).length+([62]:Bs).length≤10000000000000 by simp;omega),wsW (Ev.upto 500000000) (([60,47]:Bs)++n.2.1 ++ [62]) (acc++zky (tagT n)++(zm n).flatMap (prt d f)) (by simp only [List.length_append,List.length_cons,List.length_nil];omega),Option.bind_some]
     simp only [List.append_assoc]
  ·rw [if_neg h2]
   simp only [beq_eq_false_iff_ne.2 h2,cond_false,Option.bind_some]
   refine zbp (l:=zm n) (σ:=Bs) (fun i s=>((zm n,((zm n).length,((i:Int),()))),((),((d,()),((n,()),(ofBs s,())))))) (fun _ k s=> .inl (s++prt d f k)) (fun s=>((),((),((n,()),(ofBs s,()))))) (fun i s=>s=acc++((zm n).take i).flatMap (prt d f)) (acc) rfl (by simp) (by omega) (fun i s hi hs=>⟨?_,fun s' e=> ?_⟩) (fun s _=> ?_) ?_
   ·have hk:(zm n)[i]∈zm n:=List.getElem_mem hi
    have hle:=z08 (dn d f) (zm n) i hi
    have hpl:=zyh hd f ((zm n).take i)
    simp only [zek,decide_eq_true hi,cond_true,jv hi,Option.bind_some,zgj (show i<1000000 by omega)]
    rw [ih m _ s (by omega) (ho' _ hk) (hin' _ hk) (by rw [hs];simp only [List.length_append];omega)]
    rfl
   ·simp only [Sum.inl.injEq]at e
    rw [←e,hs,List.append_assoc,zu1]
   ·simp only [zek,Nat.lt_irrefl,decide_false,cond_false]
   ·rw [zq1]
    simp only [beq_eq_false_iff_ne.2 h2,cond_false,Option.bind_some]
noncomputable def prints (d:List Nd) (x:Int):Bs:=if thr d x=true then prt d 400 x else []
theorem z7u (d:List Nd) (x:Int) (hd:DocP d):zb4 (Ev.upto 500000000) ((d,(x,())),())=some ((prints d x,()),()):=by
 unfold zb4 prints
 have h:=hd.sm
 simp only [zpn d h,Option.bind_some]
 by_cases hc:chk d=0
 ·have R:=chk0.1 hc
  simp only [hc,bne_self_eq_false,beq_self_eq_true,cond_true]
  by_cases hx:In' d x
  ·rw [if_pos (zq0.2 ⟨R,hx⟩)]
   simp only [decide_eq_false (show ¬x<0 by have:=hx.1;omega),decide_eq_false (show ¬x≥(d.length:Int) by have:=hx.2;omega),beq_self_eq_true,cond_true,cond_false,Option.bind_some]
   have hl:=R.dn_len 400 hx
   have hl3:=R.len
   have e:(Ev.upto 500000000).rc (vr (Ev.upto 500000000)) ((d,(x,())),((),(([]:List Int),())))=some ((),((),(ofBs (prt d 400 x),()))):=by
    have:=ycb d R hd 400 500000000 x [] (by omega) (R.okD4 hx) hx (by simp only [List.length_nil];omega)
    rw [List.nil_append]at this
    exact this
   unfold zc4
   rw [e]
   simp only [Option.bind_some]
   rw [z9v,zjk]
   rfl
  ·have ht:thr d x=false:=by
    cases ht:thr d x with
    | false=>rfl
    | true=>exact absurd (zq0.1 ht).2 hx
   rw [ht]
   by_cases h0:x<0
   ·simp only [decide_eq_true h0,Bool.true_beq,cond_false,Option.bind_some,cond_true,Bool.false_eq_true,if_false]
   ·have h1:x≥(d.length:Int):=by unfold In' at hx;omega
    simp only [decide_eq_false h0,decide_eq_true h1,beq_self_eq_true,Option.bind_some,cond_true,Bool.false_eq_true,if_false]
 ·have ht:thr d x=false:=by
   cases ht:thr d x with
   | false=>rfl
   | true=>exact absurd (chk0.2 (zq0.1 ht).1) hc
  rw [ht]
  simp only [bne_iff_ne.2 hc,Bool.true_beq,cond_false,Option.bind_some,cond_true,Bool.false_eq_true,if_false]
theorem layd:zam (Ev.upto 500000000) ((),())=some ((true,()),()):=by kernel_rfl
def NmP (n:Nd):Prop:=n.2.1.length≤5000∧n.2.2.1.length≤400000000∧n.2.2.2.1.length≤50∧∀a,a∈n.2.2.2.1→a.1.length≤5000∧a.2.length≤20000
theorem Like.nm {a b:Nd} (h:Like a b) (g:NmP a):NmP b:=by
 obtain⟨h1,h2,h3,h4,_⟩:=h
 unfold NmP at g ⊢
 rw [h2,h3,h4]
 exact g
theorem yab {d:List Nd} {q:Int} {n:Nd} (h:∀m,m∈d→NmP m) (hn:NmP n):∀m,m∈layD d q n→NmP m:=by
 have hnew:∀q,NmP (reP q (mkN n)):=fun q=>hn
 intro m hm
 unfold layD at hm
 cases hq:idx d q with
 | none=>
  rw [hq]at hm
  rcases List.mem_append.1 hm with hm | hm
  ·exact h m hm
  ·rw [List.mem_singleton.1 hm];exact hn
 | some p=>
  rw [hq]at hm
  rcases List.mem_append.1 hm with hm | hm
  ·rcases List.mem_or_eq_of_mem_set hm with hm | hm
   ·exact h m hm
   ·rw [hm];exact h p (List.mem_of_getElem? (qy hq).2.2)
  ·rw [List.mem_singleton.1 hm];exact hnew _
theorem z1c {d:List Nd} {op:List Op} {n:Nd} {r:List Op×List Fl} {s':BS} (h:∀m,m∈d→NmP m) (hn:NmP n) (e:layS d op n r = .inl s'):∀m,m∈s'.1→NmP m:=by
 unfold layS at e
 split at e
 ·simp only [Sum.inl.injEq]at e
  rw [←e]
  exact yab h hn
 ·cases e
theorem yac {par:Bool} {t:Tk} {i:Int} {s s':BS} (ht:TkOk t) (h:∀m,m∈s.1→NmP m) (e:tokB par t i s = .inl s'):∀m,m∈s'.1→NmP m:=by
 obtain⟨t1,t2,t3,t4⟩:=ht
 have hx:∀k,NmP (inn k [] t.2.2.1 [] false):=fun k=>⟨by show ([]:Bs).length≤_;simp,t2,by show ([]:List At).length≤_;simp,fun a ha=>by cases ha⟩
 have hy:NmP (inn 2 t.2.1 [] t.2.2.2.1 par):=⟨t1,by show ([]:Bs).length≤_;simp,t3,t4⟩
 unfold tokB at e
 split at e
 ·exact z1c h (hx 3) e
 ·split at e
  ·exact z1c h (hx 4) e
  ·split at e
   ·exact z1c h hy e
   ·split at e
    ·simp only [Sum.inl.injEq]at e
     rw [←e]
     exact h
    ·simp only [Sum.inl.injEq]at e
     rw [←e]
     exact h
theorem z57 {par:Bool}:∀{l:List Tk},(∀t,t∈l→TkOk t)→∀(i:Nat) {s s':BS},(∀m,m∈s.1→NmP m)→runL par i l s = .inl s'→∀m,m∈s'.1→NmP m
 | [],_,i,s,s',h,e=>by
  unfold runL at e
  simp only [Sum.inl.injEq]at e
  rw [←e]
  exact h
 | t::l,hl,i,s,s',h,e=>by
  unfold runL at e
  cases hT:tokB par t (i:Int) s with
  | inr e'=>rw [hT]at e;cases e
  | inl s2=>
   rw [hT]at e
   exact z57 (fun a ha=>hl a (List.mem_cons_of_mem _ ha)) (i+1) (yac (hl t (List.mem_cons_self ..)) h hT) e
theorem z8m:z05 newD:=by
 refine⟨by decide,fun n hn=> ?_⟩
 rw [List.mem_singleton.1 hn]
 unfold NdOk
 simp
noncomputable def z3f (l:List Tk):Int×List Nd×List Fl:=z3e newD 0 l true
theorem yad (l:List Tk) (hl:z54 l):zal (Ev.upto 500000000) ((l,()),())=some (((z3f l).1,()),((z3f l).2.1,((z3f l).2.2,()))):=by
 unfold zal
 rw [ycw]
 simp only [Option.bind_some,yaa newD 0 l true z8m hl]
 rfl
theorem yc2 (l:List Tk) (hl:z54 l):DocP (z3f l).2.1:=by
 have hnil:DocP []:=⟨by simp,by simp⟩
 have hl1:=hl.1
 unfold z3f z3e
 have hi:idx newD 0=some ((1:Int),(([]:Bs),(([]:Bs),(([]:List At),((-1:Int),(([]:List Int),(false,false))))))):=rfl
 by_cases hc:chk newD=0
 ·rw [if_pos hc,hi]
  simp only [show ((1:Int)≤2) from by omega,if_true]
  cases hr:runL true 0 l (newD,([((0:Int),([]:Bs))],[])) with
  | inr e=>exact hnil
  | inl s=>
   have R:=chk0.1 hc
   have hI:=z55 hl 0 (IB.first R z8m hi (by show (1:Int)≤2;omega)) (by omega) hr
   have hN:=z57 hl.2 0 (fun m hm=>by
    rw [List.mem_singleton.1 hm]
    exact⟨by simp,by simp,by simp,fun a ha=>by cases ha⟩) hr
   have hlen:=hI.R.len
   refine⟨by show s.1.length≤310;omega,fun n hn=> ?_⟩
   obtain⟨n1,n2,n3,n4⟩:=hN n hn
   have:=hI.R.kids_le hn
   exact⟨n1,n2,n3,Nat.le_trans this (by omega),n4⟩
 ·rw [if_neg hc]
  exact hnil
theorem yae (s:Bs) (hs:s.length≤4600):z54 (runT s).2.1:=by
 have hI:=z5f (by omega) s.length _ (inv0 s)
 have hA:=z8e s s.length (0,[],[]) (fun u hu=>by cases hu)
 have h1:=hI.len
 have h2:=hI.data
 have h3:=hI.le
 refine⟨by show (runS s s.length (0,[],[])).2.1.length≤_;omega,fun t ht=> ?_⟩
 obtain⟨a1,a2,a3⟩:=hA t ht
 have d1:=h2 t ht
 refine⟨by omega,?_,by omega,fun a ha=> ?_⟩
 ·have:70000*(runS s s.length (0,[],[])).1≤70000*4600:=Nat.mul_le_mul_left _ (by omega)
  omega
 ·have:=a3 a ha
  omega
theorem z58 (s:Bs) (a to:Nat) (c:Int) (x:Rd) (buf:List Int) (hs:s.length≤2000) (ha:a≤to) (ht:to≤s.length) (h:FD (s.take a) c x buf):∃(x':Rd) (buf':List Int),
  y1 (Ev.upto 500000000) ((ofBs ((s.take to).drop a),()),((c,()),((x,()),(buf,()))))=some (((0:Int),()),(((to:Int),()),((x',()),(buf',()))))∧FD (s.take to) (to:Int) x' buf':=by
 have e0:s.take a++(s.take to).drop a=s.take to:=by
  have:=List.take_append_drop a (s.take to)
  rwa [List.take_take,Nat.min_eq_left ha]at this
 obtain⟨x',buf',e,hF⟩:=zzt 500000000 (s.take a) ((s.take to).drop a) c x buf h (by simp;omega) (by decide)
 have hl:(s.take a).length+((s.take to).drop a).length=to:=by
  rw [←List.length_append,e0,List.length_take,Nat.min_eq_left ht]
 rw [hl]at e hF
 rw [e0]at hF
 exact⟨x',buf',e,hF⟩
theorem ycc (N:Nat) (b:Bs) (hb:b.length≤5000) (hN:200000<N):zf7 (Ev.upto N) ((ofBs b,()),())=some (((0:Int),()),((runT (U b)).2.1,((runT (U b)).2.2,()))):=by
 obtain⟨x1,buf1,e1,h1⟩:=zzt N [] b 0 _ [] (z8c z8b) (by simp;omega) hN
 obtain⟨x2,e2,_⟩:=z5q N _ _ x1 buf1 h1 (by simp;omega) hN
 have n:=z5r (Ev.upto N)
 have c0:(((0:Int)) != (0:Int))=false:=rfl
 unfold zf7
 simp -implicitDefEqProofs only [n,Option.bind_some,e1,c0,cond_false,e2,List.nil_append]
theorem plainTopParts (b:List Int) (hb:(Ty.slice 5 (.int .u8)).ok b) (at' to:Int):zbw (Ev.upto 500000000) ((b,(at',(to,()))),())=some ((true,()),()):=by
 obtain⟨s,rfl⟩:=z7d hb
 have guard:∃c,((bif (decide (((ofBs s).length:Int)>(1500:Int))==false) then (bif (decide (at'<(0:Int))==false) then (bif (decide (to<at')==false) then (some ((ofBs s,(at',(to,(decide (to>((ofBs s).length:Int)),())))),())) else (some ((ofBs s,(at',(to,(true,())))),()))) else (some ((ofBs s,(at',(to,(true,())))),()))) else (some ((ofBs s,(at',(to,(true,())))),()))):Option ((List Int×Int×Int×Bool×Unit)×Unit))=some ((ofBs s,(at',(to,(c,())))),())∧(c=false→s.length≤1500∧0≤at'∧at'≤to∧to≤(s.length:Int)):=by
  rw [zn]
  by_cases h1:((s.length:Int)>1500)
  ·rw [decide_eq_true h1];exact⟨true,rfl,fun h=>by cases h⟩
  ·rw [decide_eq_false h1]
   by_cases h2:at'<0
   ·rw [decide_eq_true h2];exact⟨true,rfl,fun h=>by cases h⟩
   ·rw [decide_eq_false h2]
    by_cases h3:to<at'
    ·rw [decide_eq_true h3];exact⟨true,rfl,fun h=>by cases h⟩
    ·rw [decide_eq_false h3]
     exact⟨_,rfl,fun h=>by have:=of_decide_eq_false h;omega⟩
 obtain⟨c,e,hc⟩:=guard
 unfold zbw
 simp -implicitDefEqProofs only [e,Option.bind_some]
 cases c with
 | true=>
  simp -implicitDefEqProofs only [cond_true]
  rw [layd]
  rfl
 | false=>
  obtain⟨hs,h0,h1,h2⟩:=hc rfl
  obtain⟨a,rfl⟩:=Int.eq_ofNat_of_zero_le h0
  obtain⟨t,rfl⟩:=Int.eq_ofNat_of_zero_le (show 0≤to by omega)
  have hat:a≤t:=by omega
  have hts:t≤s.length:=by omega
  have h6:=z5i s.length s (Nat.le_refl _)
  have hT:=yae (U s) (by omega)
  obtain⟨x1,b1,e1,F1⟩:=z58 s 0 a 0 _ [] (by omega) (Nat.zero_le _) (by omega) (z8c z8b)
  obtain⟨x2,b2,e2,F2⟩:=z58 s a t _ x1 b1 (by omega) hat hts F1
  obtain⟨x3,b3,e3,F3⟩:=z58 s t s.length _ x2 b2 (by omega) hts (Nat.le_refl _) F2
  rw [List.take_length]at F3 e3
  obtain⟨x4,e4,_⟩:=z5q 500000000 s _ x3 b3 F3 (by omega) (by decide)
  have s1:sl (ofBs s) (0:Int) (a:Int)=some (ofBs ((s.take a).drop 0)):=by
   have:=zeh (l:=ofBs s) (a:=0) (b:=a) (Nat.zero_le _) (by rw [zn];omega)
   rw [zjm,zgi]at this
   exact this
  have s2:sl (ofBs s) (a:Int) (t:Int)=some (ofBs ((s.take t).drop a)):=by
   rw [zeh hat (by rw [zn];omega),zjm,zgi]
  have s3:sl (ofBs s) (t:Int) (((ofBs s).length:Nat):Int)=some (ofBs (s.drop t)):=by
   rw [zkw (by rw [zn];omega),zgi]
  have ff:(false==false)=true:=rfl
  have nw:=z5r (Ev.upto 500000000)
  have hw:=ycc 500000000 s (by omega) (by decide)
  have hP:=yad _ hT
  have hD:=z7u (z3f (runT (U s)).2.1).2.1 0 (yc2 _ hT)
  simp -implicitDefEqProofs only [cond_false,nw,Option.bind_some,s1,e1,bne_self_eq_false,ff,cond_true,s2,e2,s3,e3,e4,hw]
  rw [hP]
  simp -implicitDefEqProofs only [Option.bind_some]
  rw [layd]
  simp -implicitDefEqProofs only [Option.bind_some,beq_self_eq_true,cond_true]
  rw [hD]
  simp -implicitDefEqProofs only [Option.bind_some,beq_self_eq_true,cond_true]
end Go.En.Pl
