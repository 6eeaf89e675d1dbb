/- Text LawTopParts of this seat: written by a program of ours, or by hand; checked by Lean. -/
import Derived.Test.YtljnjjnjdanajaaGreatDoorS
import Derived.Test.YtljnjjnjdanajaaGreatDoorE12
import Derived.Test.YtljnjjnjdanajaaGreatDoorE13
import Derived.Test.YtljnjjnjdanajaaGreatDoorLTb
import Derived.Test.YtljnjjnjdanajaaGreatDoorRows
import Derived.Test.YtljnjjnjdanajaaGreatDoorTie
import Derived.Test.YtljnjjnjdanajaaGreatDoorCards
import Derived.SevenTiedAt
import Derived.Lay
import Derived.MakeChecks
import Derived.WalkKit
import Derived.ProofKit
namespace Go.Proofs.YtljnjjnjdanajaaGreatDoor.topParts
open Go.Proofs Go.ChangeShapes Go.WideShapes Go.ChangeAt Go.RowKit Go.En
open Go.ChangeMaps (open_string shut_string)
set_option linter.unusedVariables false
theorem own:ownKnob Tryz.prog.godebug=none:=by kernel_rfl
theorem laidOut:laidOutB Tryz.prog=true:=by kernel_rfl
def laids:List (String×DataW Unit):=Rows.topPartsRow.laid
theorem globsOK {W:World} (hL:laidMetH Tryz.prog laids W) (V:Ev):∀g t vs,(Pl.env V []).glob g=some (t,vs)→g<W.heap.size∧∃t' fr,W.heap[g]? = some (.cells vs.toArray t' fr):=by
 intro g t vs h
 have h':(g,t,vs)∈Pl.globs:=zxo h
 have hn:(laids.filter fun x=>x.2.handleName?.isSome) = []:=by kernel_rfl
 rcases List.mem_cons.1 h' with e | h'
 ·cases e
  exact zox hL hn (n:= "unicode/utf8.first") (d:=Rows.laid_unicode_utf8_first) (by simp [laids,Rows.topPartsRow]) (t:=152) (by kernel_rfl) (by kernel_rfl) (by kernel_rfl) (by kernel_rfl)
 rcases List.mem_cons.1 h' with e | h'
 ·cases e
  exact zox hL hn (n:= "unicode/utf8.acceptRanges") (d:=Rows.laid_unicode_utf8_acceptRanges) (by simp [laids,Rows.topPartsRow]) (t:=155) (by kernel_rfl) (by kernel_rfl) (by kernel_rfl) (by kernel_rfl)
 rcases List.mem_cons.1 h' with e | h'
 ·cases e
  exact zox hL hn (n:= "pounce/entity.names") (d:=Rows.laid_pounce_entity_names) (by simp [laids,Rows.topPartsRow]) (t:=167) (by kernel_rfl) (by kernel_rfl) (by kernel_rfl) (by kernel_rfl)
 rcases List.mem_cons.1 h' with e | h'
 ·cases e
  exact zox hL hn (n:= "internal/strconv.uint64pow10") (d:=Rows.laid_internal_strconv_uint64pow10) (by simp [laids,Rows.topPartsRow]) (t:=246) (by kernel_rfl) (by kernel_rfl) (by kernel_rfl) (by kernel_rfl)
 cases h'
theorem gerrsOK {W:World} (hL:laidMetH Tryz.prog laids W) (V:Ev):∀g,(Pl.env V []).gerr g=true→g<W.heap.size∧∃v t fr,W.heap[g]? = some (.cells #[v] t fr)∧ErrV true v:=by
 intro g h
 have h':Pl.gerrs.contains g=true:=h
 have hn:(laids.filter fun x=>x.2.handleName?.isSome) = []:=by kernel_rfl
 have hm:g=4∨g=5:=by simpa [Pl.gerrs] using h'
 rcases hm with rfl | rfl
 ·exact z10 hL hn (n:= "strconv.ErrSyntax") (s:= "*errors.errorString") (d:= .ptr (.agg [.lit (.string [105,110,118,97,108,105,100,32,115,121,110,116,97,120])])) (by simp [laids,Rows.topPartsRow,Rows.laid_strconv_ErrSyntax]) (t:=84) (by kernel_rfl) (by kernel_rfl) Tryz.underlying84
 ·exact z10 hL hn (n:= "strconv.ErrRange") (s:= "*errors.errorString") (d:= .ptr (.agg [.lit (.string [118,97,108,117,101,32,111,117,116,32,111,102,32,114,97,110,103,101])])) (by simp [laids,Rows.topPartsRow,Rows.laid_strconv_ErrRange]) (t:=84) (by kernel_rfl) (by kernel_rfl) Tryz.underlying84
theorem gintsOK {W:World} (hS:W.ShapedOpen Tryz.prog) (V:Ev):∀g,(Pl.env V []).gint g=true→∃m,W.cell? ⟨g,0,none⟩=some (.int .i64 m):=by
 intro g h
 have h':Pl.gints.contains g=true:=h
 obtain rfl:g=3:=by simpa [Pl.gints] using h'
 exact cell_of_shapedOpen_int (zero:= #[.int .i64 0]) (t:=3) hS (of_decide_eq_true (by kernel_rfl)) (by kernel_rfl) rfl (by kernel_rfl) (by kernel_rfl) Tryz.underlying3
set_option maxRecDepth 100000 in
theorem lifted (os:Os) (started:os.Started) (H:Type) (enc:TypeId×Value→H) :
  ReturnsInHanded {} Tryz.checked os 3 .any (fun w args=>(Rows.topPartsSpec.pre enc Tryz.prog Tryz.f3 [] false w args∧laidMetH Tryz.prog laids w)∧sizedMet enc Tryz.prog Tryz.f3 (OpenSpec.ofChange Rows.topPartsSpec) false w args)
   (Rows.topPartsSpec.post enc Tryz.prog Tryz.f3 false true false false):=by
 refine zvb (C:=Tryz.checked) (X:=fun w _=>laidMetH Tryz.prog laids w) (fun _ _ _ hh h=>h.of_heap hh) own started (by kernel_rfl) Tryz.func3
  (ChangeSpec.witness_shaped (enc:=enc) (C:=Tryz.checked) (os:=os) (X:=fun w _=>laidMetH Tryz.prog laids w) false (World.laidAll Tryz.prog os laids) #[.slice none 0 0, .int .i64 0, .int .i64 0] 8 (World.laidAll_os _ _ _) (World.shaped_of_ZipB (by kernel_rfl) (by kernel_rfl)) (by kernel_rfl) (by kernel_rfl) (by kernel_rfl)
   (by rw [MakeChecks.laidMetH_plain _ _ _ (by kernel_rfl)];exact laidMet_laidAll _ (by kernel_rfl) (by kernel_rfl))) ?_
 intro W base args ds gs before hval0 hW hcnd hsz0 hL hsh _
 have hsz:(DataW.weightsEach Tryz.prog (Tryz.f3.params.toList++Rows.topPartsSpec.plain.varTypes Tryz.prog) (ds++gs)).all (· ≤ reachBytes)=true:=hsz0
 have hval:∀(j:Nat) t v,Tryz.f3.params[j]? = some t→args[j]? = some v→Value.okWide Tryz.prog W .any base t v:=hval0
 have hW':=hW
 obtain⟨p,q,hA0,hV,rfl,hfz,hnd⟩:=hW
 have hA:DataW.TrodAll enc Tryz.prog W 0 (fun _=>true) true Tryz.f3.params.toList args.toList ds p:=hA0
 rw [Tryz.params3]at hA hval hsz
 obtain⟨v0,vs0,d0,ds0,p0,q0,hargs,rfl,rfl,h0,r0⟩:=trodAll_cons hA
 obtain⟨v1,vs1,d1,ds1,p1,q1,rfl,rfl,rfl,h1,r1⟩:=trodAll_cons r0
 obtain⟨v2,vs2,d2,ds2,p2,q2,rfl,rfl,rfl,h2,r2⟩:=trodAll_cons r1
 obtain⟨rfl,rfl,rfl⟩:=trodAll_nil r2
 obtain rfl:args = #[v0,v1,v2]:=by cases args;simp_all
 obtain⟨rfl,rfl⟩:=trodVars_none hV
 have k0:=h0
 have lt0:∀x∈p0,x.block<W.heap.size:=by obtain⟨m,hm⟩:=k0;exact DataW.trod_lt m _ _ _ hm
 obtain⟨a0,ok0,y0⟩:=z23 (n:=9) (e:=5) (T:=(.int .u8)) (β:=fun _=> .blk 0) Tryz.underlying22 (by kernel_rfl) (hval 0 22 v0 rfl rfl) h0 (z22 hsz (j:=0) (t:=22) rfl rfl)
 obtain⟨a1,rfl,rfl,rfl,w1⟩:=open_int Tryz.underlying3 (hval 1 3 v1 rfl rfl) h1
 obtain⟨a2,rfl,rfl,rfl,w2⟩:=open_int Tryz.underlying3 (hval 2 3 v2 rfl rfl) h2
 clear hA0 hval0 hsz0 hsz
 refine(z4r (Pl.soundpouncetop_TopParts_ _ (Ev.upto_ok 500000000)) (t:=(a0,(a1,(a2,())))) (Pl.plainTopParts a0 ok0 a1 a2) (globsOK hL _) (gerrsOK hL _) (gintsOK hsh _) (vs:=[v0, .int .i64 a1, .int .i64 a2]) ⟨_,_,rfl,y0,⟨_,_,rfl,⟨rfl,w1⟩,⟨_,_,rfl,⟨rfl,w2⟩,rfl⟩⟩⟩).mono fun e W' ⟨he,bel⟩=> ?_
 subst he
 exact⟨_,rfl,_,_,_,[],_,[],hW',trodAll_mk1 (shut_bool Tryz.underlying4 _),(trodAll_cons_mk (Below.trod laidOut (by kernel_rfl) (of_decide_eq_true (by kernel_rfl)) k0 bel lt0) (trodAll_cons_mk (shut_int Tryz.underlying3 w1) (trodAll_cons_mk (shut_int Tryz.underlying3 w2) trodAll_mk0))),rfl,bel.frame _,fun h=>by cases h⟩
theorem over:Rows.TopPartsSaid:=
 OpenClaim.holds_of_wide 3 Tryz.f3 rfl rfl rfl rfl rfl rfl rfl ⟨rfl,rfl,rfl,rfl,rfl⟩ rfl rfl rfl rfl rfl (by kernel_rfl) Tryz.func3 (by kernel_rfl)
  (of_decide_eq_true (by kernel_rfl)) (by unfold Func.isWrapper;first | (rw [if_pos (by decide +kernel)];kernel_rfl) | (rw [if_neg (by decide +kernel)];exact⟨rfl,rfl⟩))
  (fun os started H enc _=>lifted os started H enc)
theorem card:Rows.TopPartsCardSaid:=
 Claim7.holds_tied_plain_at .later [] [.data, .data, .data, .data, .sentinel, .sentinel, .widerDeep, .pinned] true (true, "24a9d629715d1cb8ea8667cf7687c233ce608fb855cace4ec97b21cf4523df9e") true
  over (fun _ h=>by cases h) (by kernel_rfl) (fun _ h=>by cases h) topParts_row_tie rfl ⟨rfl,rfl⟩ (by kernel_rfl) rfl
  (fun f fn hf hfn=>by
   obtain rfl:f=3:=Option.some.inj ((show Tryz.prog.funcNamed "pounce/pouncetop.TopParts" = some 3 by kernel_rfl).symm.trans hf) |>.symm
   obtain rfl:fn=Tryz.f3:=(Option.some.inj (Tryz.func3.symm.trans hfn)).symm
   exact⟨by kernel_rfl,fun j t ht=>by
    rw [Tryz.params3]at ht
    have hm:t ∈ [22,3,3]:=by simpa using Array.mem_of_getElem? ht
    have hall:([22,3,3].all fun u=> !Tryz.prog.wantsStandIn u)=true:=by kernel_rfl
    exact(show Tryz.prog.wantsStandIn t=false by simpa using List.all_eq_true.1 hall t hm)⟩)
  (by kernel_rfl)
end Go.Proofs.YtljnjjnjdanajaaGreatDoor.topParts
