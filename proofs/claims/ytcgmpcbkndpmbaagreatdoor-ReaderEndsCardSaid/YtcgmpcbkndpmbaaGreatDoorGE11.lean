import Derived.Test.YtcgmpcbkndpmbaaGreatDoorGE10
/-
 The reader: arrays.
-/
open Go Go.Proofs Go.Pw Go.RowKit
namespace Go.Proofs.YtcgmpcbkndpmbaaGreatDoor
set_option maxRecDepth 4000
set_option linter.unusedVariables false
set_option linter.unusedSimpArgs false
attribute [local go_sem] Nat.le_refl Tk.cells Tryz.results49 drop01 drop01_0 drop01_1 dropH_nil str_eq str_one
def tab_in21:List Row:=[⟨#[false,false,false,false,false],[0,1],5⟩,⟨#[true,false,false,false,false],[1],4⟩,⟨#[false,true,false,false,false],[0,2],4⟩,⟨#[true,true,false,false,false],[2],3⟩,⟨#[false,true,true,false,false],[0],3⟩,⟨#[true,true,true,false,false],[3],2⟩,⟨#[true,true,true,true,false],[4],1⟩,⟨#[true,true,true,true,true],[],0⟩]
def in21_J (s:ByteArray)(D:Int)(r:RS)(v:V):List Bool->Unit->PS
 | [b0,b1,b2,b3,b4],d=>⟨(cd b0 (74,.agg (cellsV v)) (cd b1 (75,.ptr 0 0) (cd b2 (76,vB (nxtB s r)) (cd b4 (5,vB (nxtB s r)) [(0,.ptr 0 0),(4,.ptr 2 0),(8,.ptr 15 0)])))),[(0,.box 69 (.ptr 1 0::rdC D (cs b2 (nxtR s r) r))),(1,.box 94 [vS s,vI (cs b2 (nxtR s r) r).i]),(2,.box 33 (cs b3 (cellsV v) [vI 0,vB false,vI 0,vS ByteArray.empty,vNil,vNil])),(15,.box 33 (cellsV v))],[],16,0⟩
 |_,_=>⟨[],[],[],0,0⟩
def tab_in22:List Row:=[⟨#[false,false,false,false,false],[0,1],5⟩,⟨#[true,false,false,false,false],[1],4⟩,⟨#[false,true,false,false,false],[0,2],4⟩,⟨#[true,true,false,false,false],[2],3⟩,⟨#[false,true,true,false,false],[0],3⟩,⟨#[true,true,true,false,false],[3],2⟩,⟨#[true,true,true,true,false],[4],1⟩,⟨#[true,true,true,true,true],[],0⟩]
def in22_J (s:ByteArray)(D:Int)(r:RS)(ii cap:Nat)(l:List V)(rest:List PV):List Bool->Unit->PS
 | [b0,b1,b2,b3,b4],d=>⟨(cd b0 (74,.agg [vI 4,vB false,vI 0,vS ByteArray.empty,.ms ii 0 l.length cap,vNil]) (cd b1 (75,.ptr 0 0) (cd b2 (76,vB (nxtB s r)) (cd b4 (5,vB (nxtB s r)) [(0,.ptr 0 0),(4,.ptr 2 0),(8,.ptr 15 0)])))),[(0,.box 69 (.ptr 1 0::rdC D (cs b2 (nxtR s r) r))),(1,.box 94 [vS s,vI (cs b2 (nxtR s r) r).i]),(2,.box 33 (cs b3 [vI 4,vB false,vI 0,vS ByteArray.empty,.ms ii 0 l.length cap,vNil] [vI 0,vB false,vI 0,vS ByteArray.empty,vNil,vNil])),(15,.box 33 [vI 4,vB false,vI 0,vS ByteArray.empty,.ms ii 0 l.length cap,vNil]),(ii,.box 33 (flatV l++rest))],[],ii+1,0⟩
 |_,_=>⟨[],[],[],0,0⟩
theorem fzL_flatV:∀l:List V,fzL (flatV l)=some (flatV l)
 | []=>rfl
 |v::r=>by
  have ih:=fzL_flatV r
  rw[flatV_cons]
  simp only[cellsV,List.cons_append,List.nil_append]
  simp only[fzL,fz,ih]
theorem fin_step (s:ByteArray)(f:Nat->An)(n q:Nat)(l:List V):rItems s f (n+1) q l=if(fin s (f q)).code≠0 then .bad (fin s (f q)).code (fin s (f q)).place else
  if(nT s (fin s (f q)).at_).sign 93=true then .good (.mk 4 false 0 ByteArray.empty (l++[(fin s (f q)).v]) []) (nQ s (fin s (f q)).at_) else
  if(nT s (fin s (f q)).at_).sign 44=true then rItems s f n (nQ s (fin s (f q)).at_) (l++[(fin s (f q)).v]) else .bad 1 (nT s (fin s (f q)).at_).at_:=by
 rw[rItems]
 unfold fin
 by_cases h1:(f q).code≠0
 ·simp only[if_pos h1]
 ·simp only[if_neg h1]
  by_cases h2:nE s (f q).at_≠0
  ·have h3:(An.bad (nE s (f q).at_) (nP s (f q).at_)).code≠0:=h2
   simp only[if_pos h2,if_pos h3]
   rfl
  ·simp only[if_neg h2,if_neg h1]
theorem fin_ok {s:ByteArray}{q:Nat}{A:An}(h:AnOk s q A)(hc:(fin s A).code=0):q<(fin s A).at_/\(fin s A).at_<=s.size/\nE s (fin s A).at_=0/\szV (fin s A).v<=5*((fin s A).at_-q):=by
 unfold fin at hc ⊢
 by_cases h1:A.code≠0
 ·rw[if_pos h1]at hc; exact absurd hc h1
 ·rw[if_neg h1]at hc ⊢
  by_cases h2:nE s A.at_≠0
  ·rw[if_pos h2]at hc; exact absurd hc h2
  ·rw[if_neg h2]
   have:=h (by omega)
   exact⟨this.1,this.2.1,by omega,this.2.2⟩
def arN (s:ByteArray)(D m:Int)(q:Nat)(pl co:Int):PS:=⟨[(10,vB true),(9,.ptr 24 0),(8,.ptr 15 0),(7,.bm 73 [.ptr 0 0]),(6,vS ⟨#[93]⟩),(5,vB false),(4,.ptr 2 0),(0,.ptr 0 0),(1,vI m)],[(0,.box 69 (.ptr 1 0::rdC D ⟨nT s q,nQ s q,pl,co⟩)),(1,.box 94 [vS s,vI (nQ s q)]),(2,.box 33 [vI 0,vB false,vI 0,vS ByteArray.empty,vNil,vNil]),(15,.box 33 [vI 4,vB false,vI 0,vS ByteArray.empty,vNil,vNil]),(24,.box 26 [vNil])],[],25,0⟩
def arC (s:ByteArray)(D m:Int)(q:Nat)(pl co:Int)(ii cap:Nat)(l:List V)(rest:List PV):PS:=⟨[(10,vB false),(9,.ptr 24 0),(8,.ptr 15 0),(7,.bm 73 [.ptr 0 0]),(6,vS ⟨#[93]⟩),(5,vB false),(4,.ptr 2 0),(0,.ptr 0 0),(1,vI m)],[(0,.box 69 (.ptr 1 0::rdC D ⟨nT s q,nQ s q,pl,co⟩)),(1,.box 94 [vS s,vI (nQ s q)]),(2,.box 33 [vI 0,vB false,vI 0,vS ByteArray.empty,vNil,vNil]),(15,.box 33 [vI 4,vB false,vI 0,vS ByteArray.empty,.ms ii 0 l.length cap,vNil]),(24,.box 26 [vNil]),(ii,.box 33 (flatV l++rest))],[],ii+1,0⟩
structure ArI where
 q:Nat
 pl:Int
 co:Int
 ii:Nat
 cap:Nat
 l:List V
 rest:List PV
def ArI.st (s:ByteArray)(D m:Int)(d:ArI):PS:=match d.l with
 | []=>arN s D m d.q d.pl d.co
 |x::r=>arC s D m d.q d.pl d.co d.ii d.cap (x::r) d.rest
structure ArOk (s:ByteArray) (f:Nat->An) (i:Nat) (F:An) (d:ArI):Prop where
 qs:d.q<=s.size
 qe:nE s d.q=0
 len:d.l.length<=d.q
 nil:d.l=[]->d.q=i
 go:d.l≠[]->∃n,s.size<d.q+n/\rItems s f n d.q d.l=F
 ii:d.l≠[]->25<=d.ii/\d.l.length<=d.cap/\d.cap<=maxLen/\d.rest.length=(d.cap-d.l.length)*6/\∀x y,PV.ltL x y d.rest=true
theorem ArI.st_cons {s:ByteArray}{D m:Int}{d:ArI}(h:d.l≠[]):d.st s D m=arC s D m d.q d.pl d.co d.ii d.cap d.l d.rest:=by
 unfold ArI.st
 cases hl:d.l with
 |nil=>exact absurd hl h
 |cons x r=>rfl
theorem ArI.st_nil {s:ByteArray}{D m:Int}{d:ArI}(h:d.l=[]):d.st s D m=arN s D m d.q d.pl d.co:=by
 unfold ArI.st
 rw[h]
structure ArE where
 ii:Nat
 cap:Nat
 l:List V
 rest:List PV
 r:RS
def ArE.st (s:ByteArray)(D:Int)(d:ArE):PS:=match d.l with
 | []=>⟨[(8,.ptr 15 0),(4,.ptr 2 0),(0,.ptr 0 0)],[(0,.box 69 (.ptr 1 0::rdC D d.r)),(1,.box 94 [vS s,vI d.r.i]),(2,.box 33 [vI 0,vB false,vI 0,vS ByteArray.empty,vNil,vNil]),(15,.box 33 [vI 4,vB false,vI 0,vS ByteArray.empty,vNil,vNil])],[],16,0⟩
 |x::q=>⟨[(8,.ptr 15 0),(4,.ptr 2 0),(0,.ptr 0 0)],[(0,.box 69 (.ptr 1 0::rdC D d.r)),(1,.box 94 [vS s,vI d.r.i]),(2,.box 33 [vI 0,vB false,vI 0,vS ByteArray.empty,vNil,vNil]),(15,.box 33 [vI 4,vB false,vI 0,vS ByteArray.empty,.ms d.ii 0 (x::q).length d.cap,vNil]),(d.ii,.box 33 (flatV (x::q)++d.rest))],[],d.ii+1,0⟩
theorem ArE.st_cons {s:ByteArray}{D:Int}{d:ArE}(h:d.l≠[]):d.st s D=⟨[(8,.ptr 15 0),(4,.ptr 2 0),(0,.ptr 0 0)],[(0,.box 69 (.ptr 1 0::rdC D d.r)),(1,.box 94 [vS s,vI d.r.i]),(2,.box 33 [vI 0,vB false,vI 0,vS ByteArray.empty,vNil,vNil]),(15,.box 33 [vI 4,vB false,vI 0,vS ByteArray.empty,.ms d.ii 0 d.l.length d.cap,vNil]),(d.ii,.box 33 (flatV d.l++d.rest))],[],d.ii+1,0⟩:=by
 unfold ArE.st
 cases hl:d.l with
 |nil=>exact absurd hl h
 |cons x r=>rfl
structure ArEOk (s:ByteArray) (F:An) (d:ArE):Prop where
 e:F = .good (.mk 4 false 0 ByteArray.empty d.l []) d.r.i
 i:d.r.i<=s.size
 sz:szV (.mk 4 false 0 ByteArray.empty d.l [])<=200000
 ii:d.l≠[]->25<=d.ii/\d.l.length<=d.cap/\d.rest.length=(d.cap-d.l.length)*6/\∀x y,PV.ltL x y d.rest=true
theorem arr_mf (ii cap:Nat)(l:List V)(b:Bool):List.map (PV.mf ii 6 (flatV l)) [.agg [vI 4,vB false,vI 0,vS ByteArray.empty,.ms ii 0 l.length cap,vNil],vB b]=[.agg [vI 4,vB false,vI 0,vS ByteArray.empty,.sl (encV l),vNil],vB b]:=by
 have h:PV.mf ii 6 (flatV l) (.ms ii 0 l.length cap) = .sl (encV l):=by
  rw[PV.mf,if_pos ⟨rfl,by rw[flatV_len]; omega⟩,List.drop_zero]
  have:=chunksV l []
  rw[List.append_nil]at this
  rw[this]
 show[PV.agg [vI 4,vB false,vI 0,vS ByteArray.empty,PV.mf ii 6 (flatV l) (.ms ii 0 l.length cap),vNil],vB b]=_
 rw[h]
theorem arr_drop {ii:Nat}(h:25<=ii)(a b c d e:PObj):dropH [ii] [(0,a),(1,b),(2,c),(15,d),(ii,e)]=[(0,a),(1,b),(2,c),(15,d)]:=by
 have h0:¬0=ii:=by omega
 have h1:¬1=ii:=by omega
 have h2:¬2=ii:=by omega
 have h3:¬15=ii:=by omega
 simp[dropH,inL,h0,h1,h2,h3]
theorem arr_nodup {ii:Nat}(h:25<=ii):([0,1,15,24,ii]:List Nat).Nodup:=by
 have h0:¬0=ii:=by omega
 have h1:¬1=ii:=by omega
 have h2:¬24=ii:=by omega
 have h3:¬15=ii:=by omega
 simp[h0,h1,h2,h3]
theorem arr_dropI {ii:Nat}(h:25<=ii)(a b c d e f:PObj):dropH [0,1,15,24,ii] [(0,a),(1,b),(2,c),(15,d),(24,e),(ii,f)]=[(2,c)]:=by
 have h0:¬0=ii:=by omega
 have h1:¬1=ii:=by omega
 have h2:¬2=ii:=by omega
 have h3:¬15=ii:=by omega
 simp[dropH,inL,h0,h1,h2,h3]
theorem arr_lkp5 {ii:Nat}(h:25<=ii)(a b c d e f:PObj):lkp [(0,a),(1,b),(2,c),(15,d),(24,e),(ii,f)] ii=some f:=by
 have h0:¬ii=0:=by omega
 have h1:¬ii=1:=by omega
 have h2:¬ii=2:=by omega
 have h3:¬ii=15:=by omega
 have h4:¬ii=24:=by omega
 simp[lkp,h0,h1,h2,h3,h4]
theorem arr_lkp {ii:Nat}(h:25<=ii)(a b c d e:PObj):lkp [(0,a),(1,b),(2,c),(15,d),(ii,e)] ii=some e:=by
 have h0:¬ii=0:=by omega
 have h1:¬ii=1:=by omega
 have h2:¬ii=2:=by omega
 have h3:¬ii=15:=by omega
 simp[lkp,h0,h1,h2,h3]
set_option maxHeartbeats 64000000 in
theorem rd_arr (s:ByteArray)(hs:s.size<=20000)(D m:Int)(hm:m<D)(hm0:0<=m)(hD:D<9223372036854775808)(p:Nat)(hp:p<=s.size)(h1:nE s p=0)(t:Tk)(i:Nat)(e1:t=nT s p)(e2:i=nQ s p)(place code:Int)(h123:t.sign 123=false)(f:Nat->An)
  (hf:∀q,q<=s.size->nE s q=0->∀pl co,VOk 29 s D (m+1) ⟨nT s q,nQ s q,pl,co⟩ (fin s (f q))) (hfo:∀q,q<=s.size->AnOk s q (f q)) (hfe:∀q,nE s q≠0->f q = .bad (nE s q) (nP s q)) (hsz:AnOk s p (rArr s f i)):VOk 49 s D m ⟨t,i,place,code⟩ (fin s (rArr s f i)):=by
 have tk:=tk_ok s p hp
 have hi:i<=s.size:=by rw[e2]; exact tk.le
 have ci:=rd_is s D ⟨t,i,place,code⟩ 123
 have cn:=rd_next s D ⟨t,i,place,code⟩ hi (by omega)
 refine OkI.of_pwpG (by kernel_rfl) Tryz.func49 rfl (by kernel_rfl) (by kernel_rfl) (bar:=bar2 19 1000 (bar2 21 100 noBar)) ?_
 refine p_seq_k (fun K hK=>?_)
 simp -implicitDefEqProofs (disch:=omega) only[go_sem,simprocAttr]
 refine hK _ ?_
 clear hK
 refine p_seq_k (fun K hK=>?_)
 simp -implicitDefEqProofs (disch:=omega) only[go_sem,simprocAttr,decide_eq_false (show ¬D<=m by omega)]
 refine hK _ ?_
 clear hK
 refine p_seq_k (fun K hK=>?_)
 simp -implicitDefEqProofs (disch:=omega) only[go_sem,simprocAttr]
 refine hK _ ?_
 clear hK
 refine p_seq_k (fun K hK=>?_)
 simp -implicitDefEqProofs (disch:=omega) only[go_sem,simprocAttr]
 refine hK _ ?_
 clear hK
 refine p_seq_k (fun K hK=>?_)
 simp -implicitDefEqProofs (disch:=omega) only[go_sem,simprocAttr]
 refine CallOk.ofI (ci.at (st:=⟨[],_,_,_,_⟩) 0 1 (by decide) (by simp) (by simp) rfl (fun _ _=>rfl) (by rfl) (by rfl)) rfl rfl rfl rfl ?_
 rintro r1 st' ⟨_,_,rfl,nt1,q1,rfl⟩
 simp only at q1 ⊢
 rw[h123]
 simp -implicitDefEqProofs (disch:=omega) only[go_sem,simprocAttr,dropH,inL]
 refine hK _ ?_
 clear hK
 refine p_seq_k (fun K hK=>?_)
 simp -implicitDefEqProofs (disch:=omega) only[go_sem,simprocAttr]
 refine CallOk.ofI (cn.at (st:=⟨[],_,_,_,_⟩) 0 1 (by decide) (by simp) (by simp) rfl (fun _ _=>rfl) (by rfl) (by rfl)) rfl rfl rfl rfl ?_
 rintro r1 st' ⟨_,_,rfl,nt2,q2,rfl⟩
 simp only at q2 ⊢
 generalize hF:rArr s f i=F at *
 unfold rArr at hF
 unfold nxtB nxtR
 simp only
 by_cases n1:nE s i=0
 rotate_left
 ·rw[if_neg n1,decide_eq_false n1]
  rw[if_pos n1]at hF
  subst hF
  simp -implicitDefEqProofs (disch:=omega) only[go_sem,simprocAttr,dropH,inL]
  refine .inl ⟨⟨[],rdH s D ⟨t,nQ s i,nP s i,nE s i⟩,[],2,0⟩,⟨(vZero,false,⟨t,nQ s i,nP s i,nE s i⟩),vp_bad n1 rfl rfl vZero_sz,rfl,rfl,rfl,rfl⟩,?_⟩
  constructor<;>simp only[go_sem,simprocAttr,decide_eq_true_eq,Int.natCast_add,Int.natCast_one]<;>try ((repeat' apply And.intro)<;>first|rfl|omega|(congr 3; omega)|(congr 2; omega))
 rw[if_pos n1,decide_eq_true n1]
 rw[if_neg (show ¬nE s i≠0 by rw[n1]; decide)]at hF
 simp -implicitDefEqProofs (disch:=omega) only[go_sem,simprocAttr,dropH,inL]
 refine hK _ ?_
 clear hK
 refine p_seq_k (fun K hK=>?_)
 simp -implicitDefEqProofs (disch:=omega) only[go_sem,simprocAttr]
 refine hK _ ?_
 clear hK
 have t2:=tk_ok s i hi
 refine p_join (D:={ d:ArE // ArEOk s F d }) (fun d=>d.1.st s D) ?_ ?_
 ·
  rintro⟨⟨ii,cap,l,rest,r⟩,hd⟩ st hw
  have hri:=hd.i
  have cn:=rd_next s D r hri (by omega)
  simp only at hri cn
  refine p_seq_k (fun K hK=>?_)
  simp -implicitDefEqProofs (disch:=omega) only[go_sem,simprocAttr]
  have hvp:=hd.e▸vp_next (s:=s) (r:=r) hd.sz
  cases l with
  |nil=>
   refine p_weak hw ?_
   simp only[ArE.st]
   simp -implicitDefEqProofs (disch:=omega) only[go_sem,simprocAttr]
   refine hK _ ?_
   clear hK
   simp -implicitDefEqProofs (disch:=omega) only[go_sem,simprocAttr]
   refine p_tab2 (by decide) ?_
   refine p_tableJ (by decide) tab_in21 (by kernel_rfl) (Unit) (in21_J s D r (.mk 4 false 0 ByteArray.empty [] [])) (fun _ _=>True) () [false,false,false,false,false] [true,true,true,true,true] rfl rfl trivial ?_ ?_ ?_
   ·simp only[in21_J]
    constructor<;>simp only[go_sem,simprocAttr,decide_eq_true_eq,cellsV,V.kind_mk,V.b_mk,V.n_mk,V.s_mk,V.items_mk,V.keys_mk,encV_nil,encT_nil]<;>try ((repeat' apply And.intro)<;>first|rfl|omega|(congr 3; omega)|(congr 2; omega))
   ·rintro⟨⟩ hd
    simp only[in21_J]at hd ⊢
    simp -implicitDefEqProofs (disch:=omega) only[go_sem,simprocAttr,cellsV]
    refine .inl ⟨⟨[],rdH s D (nxtR s r),[],2,0⟩,⟨(.mk 4 false 0 ByteArray.empty [] [],nxtB s r,nxtR s r),hvp,rfl,rfl,rfl,rfl⟩,?_⟩
    constructor<;>simp only[go_sem,simprocAttr,decide_eq_true_eq,cellsV]<;>try ((repeat' apply And.intro)<;>first|rfl|omega|(congr 3; omega)|(congr 2; omega))
   intro get arr hget
   obtain⟨g0,g1,g2,g3,g4⟩:get 0=_/\get 1=_/\get 2=_/\get 3=_/\get 4=_:=⟨hget 0,hget 1,hget 2,hget 3,hget 4⟩
   simp only[List.getElem?_cons_zero,List.getElem?_cons_succ]at g0 g1 g2 g3 g4
   clear hget
   simp only[tab_in21,allE,allL,and_true,List.set_cons_zero,List.set_cons_succ]
   repeat' apply And.intro
   all_goals
    rintro⟨⟩ hd
    simp only[g0,g1,g2,g3,g4,b_some,in21_J]at hd ⊢
    clear g0 g1 g2 g3 g4
    refine .inl ?_
    simp -implicitDefEqProofs (disch:=omega) only[go_sem,simprocAttr,cellsV,dropH,inL]
    try
     refine CallOk.ofI (cn.at (st:=⟨[],_,_,_,_⟩) 0 1 (by decide) (by simp) (by simp) rfl (fun _ _=>rfl) (by rfl) (by rfl)) rfl rfl rfl rfl ?_
     rintro r1 st' ⟨_,_,rfl,nt9,q9,rfl⟩
     simp only at q9
     simp -implicitDefEqProofs (disch:=omega) only[go_sem,simprocAttr,dropH,inL]
    first|refine⟨(),trivial,?_⟩|refine⟨(),?_⟩|skip
    constructor<;>simp only[go_sem,simprocAttr,decide_eq_true_eq,cellsV,V.kind_mk,V.b_mk,V.n_mk,V.s_mk,V.items_mk,V.keys_mk,encV_nil,encT_nil]<;>try ((repeat' apply And.intro)<;>first|rfl|omega|(congr 3; omega)|(congr 2; omega))
  |cons x0 r0=>
   obtain⟨b1,b2,b3,b4⟩:=hd.ii (by simp)
   simp only at b1 b2 b3 b4
   have b5:∀a b,PV.ltL a b (flatV (x0::r0)++rest)=true:=fun a b=>by rw[ltL_app,ltL_flatV,b4]; rfl
   refine p_weak hw ?_
   rw[ArE.st_cons (by simp)]
   simp only
   generalize x0::r0=l at *
   simp -implicitDefEqProofs (disch:=omega) only[go_sem,simprocAttr]
   refine hK _ ?_
   clear hK
   simp -implicitDefEqProofs (disch:=omega) only[go_sem,simprocAttr]
   refine p_tab2 (by decide) ?_
   refine p_tableJ (by decide) tab_in22 (by kernel_rfl) (Unit) (in22_J s D r ii cap l rest) (fun _ _=>True) () [false,false,false,false,false] [true,true,true,true,true] rfl rfl trivial ?_ ?_ ?_
   ·simp only[in22_J]
    refine⟨?_,by simp(disch:=omega) only[tok_T,tok_F,toks_T,toks_F,ob_T,ob_F,obs_T,obs_F,Bool.true_and,Bool.and_eq_true,go_sem,simprocAttr,decide_eq_true_eq,ltL_app,ltL_flatV,b4]<;>try ((repeat' apply And.intro)<;>first|rfl|omega|(congr 3; omega)|(congr 2; omega)),?_,?_,?_,?_,?_⟩<;>simp only[go_sem,simprocAttr,decide_eq_true_eq,ltL_app,ltL_flatV,b4]<;>try ((repeat' apply And.intro)<;>first|rfl|omega|(congr 3; omega)|(congr 2; omega))
   ·rintro⟨⟩ hd
    simp only[in22_J]at hd ⊢
    simp -implicitDefEqProofs (disch:=omega) only[go_sem,simprocAttr]
    refine .inr ⟨ii,33,flatV l++rest,flatV l,6,l.length*6,(arr_lkp b1 _ _ _ _ _),(by rw[flat_app1]; exact fzL_flatV l),⟨[],rdH s D (nxtR s r),[],2,0⟩,⟨(.mk 4 false 0 ByteArray.empty l [],nxtB s r,nxtR s r),hvp,?_,rfl,rfl,rfl⟩,?_⟩
    ·rw[arr_mf]
     rfl
    rw[arr_mf]
    generalize hR9:packR _=R
    have hl9:PV.lt 2 0 R=true:=by rw[<-hR9]; rfl
    simp only[arr_drop b1]
    constructor<;>simp only[go_sem,simprocAttr,decide_eq_true_eq,ltL_app,ltL_flatV,b4,hl9]<;>try ((repeat' apply And.intro)<;>first|rfl|omega|(congr 3; omega)|(congr 2; omega))
   intro get arr hget
   obtain⟨g0,g1,g2,g3,g4⟩:get 0=_/\get 1=_/\get 2=_/\get 3=_/\get 4=_:=⟨hget 0,hget 1,hget 2,hget 3,hget 4⟩
   simp only[List.getElem?_cons_zero,List.getElem?_cons_succ]at g0 g1 g2 g3 g4
   clear hget
   simp only[tab_in22,allE,allL,and_true,List.set_cons_zero,List.set_cons_succ]
   repeat' apply And.intro
   all_goals
    rintro⟨⟩ hd
    simp only[g0,g1,g2,g3,g4,b_some,in22_J]at hd ⊢
    clear g0 g1 g2 g3 g4
    refine .inl ?_
    simp -implicitDefEqProofs (disch:=omega) only[go_sem,simprocAttr]
    try
     refine CallOk.ofI (cn.at (st:=⟨[],_,_,_,_⟩) 0 1 (by decide) (by simp only; omega) (by simp only; omega) rfl (fun _ _=>rfl) (by rfl) (by rfl)) rfl rfl rfl rfl ?_
     rintro r1 st' ⟨_,_,rfl,nt9,q9,rfl⟩
     simp(disch:=omega) only[drop01,drop01_0,drop01_1,dropH_nil]at q9 ⊢
     simp -implicitDefEqProofs (disch:=omega) only[go_sem,simprocAttr]
    first|refine⟨(),trivial,?_⟩|refine⟨(),?_⟩|skip
    refine⟨?_,by simp(disch:=omega) only[tok_T,tok_F,toks_T,toks_F,ob_T,ob_F,obs_T,obs_F,Bool.true_and,Bool.and_eq_true,go_sem,simprocAttr,decide_eq_true_eq,ltL_app,ltL_flatV,b4]<;>try ((repeat' apply And.intro)<;>first|rfl|omega|(congr 3; omega)|(congr 2; omega)),?_,?_,?_,?_,?_⟩<;>simp only[go_sem,simprocAttr,decide_eq_true_eq,ltL_app,ltL_flatV,b4]<;>try ((repeat' apply And.intro)<;>first|rfl|omega|(congr 3; omega)|(congr 2; omega))
 ·
  intro KJ hKJ
  refine p_seq_k (fun K hK=>?_)
  simp -implicitDefEqProofs (disch:=omega) only[go_sem,simprocAttr]
  refine hK _ ?_
  clear hK
  simp -implicitDefEqProofs (disch:=omega) only[go_sem,simprocAttr]
  refine p_loop (ι:={ d:ArI // ArOk s f i F d }) (fun d=>d.1.st s D m) (fun d=>s.size+1-d.1.q) ⟨⟨i,place,code,0,0,[],[]⟩,⟨hi,n1,Nat.zero_le _,fun _=>rfl,fun h=>absurd rfl h,fun h=>absurd rfl h⟩⟩ ?_ ?_
  ·simp only[ArI.st,arN]
   constructor<;>simp only[go_sem,simprocAttr,decide_eq_true_eq,Int.natCast_add,Int.natCast_one]<;>try ((repeat' apply And.intro)<;>first|rfl|omega|(congr 3; omega)|(congr 2; omega))
  rintro⟨⟨q,pl,co,ii,cap,l,rest⟩,hd⟩
  have hqs:q<=s.size:=hd.qs
  have hqe:nE s q=0:=hd.qe
  have hql:l.length<=q:=hd.len
  by_cases hn:l=[]
  ·simp only[ArI.st_nil (d:=⟨q,pl,co,ii,cap,l,rest⟩) hn,arN]
   have hq:q=i:=hd.nil hn
   have c93:=rd_is s D ⟨nT s q,nQ s q,pl,co⟩ 93
   simp -implicitDefEqProofs (disch:=omega) only[go_sem,simprocAttr]
   refine CallOk.ofI (c93.at (st:=⟨[],_,_,_,_⟩) 0 1 (by decide) (by simp) (by simp) rfl (fun _ _=>rfl) (by rfl) (by rfl)) rfl rfl rfl rfl ?_
   rintro r1 st' ⟨_,_,rfl,nt3,q3,rfl⟩
   simp only at q3 ⊢
   cases h93:(nT s q).sign 93 with
   |true=>
    simp -implicitDefEqProofs (disch:=omega) only[go_sem,simprocAttr,dropH,inL]
    refine hKJ ⟨⟨0,0,[],[],⟨nT s q,nQ s q,pl,co⟩⟩,?_⟩ _ ?_
    ·rw[hq]at h93 ⊢
     rw[if_pos h93]at hF
     exact⟨hF.symm,(tk_ok s i hi).le,(by show szV (.mk 4 false 0 ByteArray.empty [] [])<=200000; decide),fun h=>absurd rfl h⟩
    ·simp only[ArE.st]
     constructor<;>simp only[go_sem,simprocAttr,decide_eq_true_eq,Int.natCast_add,Int.natCast_one]<;>try ((repeat' apply And.intro)<;>first|rfl|omega|(congr 3; omega)|(congr 2; omega))
   |false=>
    simp -implicitDefEqProofs (disch:=omega) only[go_sem,simprocAttr,dropH,inL]
    refine BmOk.of (item_at_nil (hf q hqs hqe pl co) (st:=⟨[],_,_,_,_⟩) 15 24 [] vNil vNil [] rfl (fun _ h=>by cases h) (by decide) (by simp) (by simp) (by simp) (by simp) List.nodup_nil (fun _ h=>by cases h) (fun _ h=>by cases h) (fun _=>rfl) (by rfl) (by rfl) (by rfl) (by rfl)) rfl rfl rfl rfl ?_
    rintro r1 st' ⟨⟨v,vb,r⟩,cap',rest',nt',hv,rfl,q4,g1,g2,g3,g4,rfl⟩
    simp only[dropH,inL,List.cons_append,List.nil_append]at hv g1 g2 g3 g4 q4 ⊢
    skip
    have hvb:=hv.b
    simp only at hvb
    subst hvb
    obtain⟨n,hn1,hn2⟩:=(show ∃n,s.size<q+n/\rItems s f n q []=F from⟨s.size+1,by omega,by rw[<-hF,if_neg (by rw[<-hq,h93]; decide),hq]⟩)
    obtain⟨n,rfl⟩:∃k,n=k+1:=⟨n-1,by omega⟩
    rw[fin_step]at hn2
    have hfq:=hfo q hqs
    generalize hA:fin s (f q)=A at *
    by_cases hc:A.code=0
    rotate_left
    ·rw[decide_eq_false hc]
     rw[if_pos hc]at hn2
     subst hn2
     obtain⟨e3,e4⟩:=hv.no hc
     simp only at e3 e4
     simp -implicitDefEqProofs (disch:=omega) only[go_sem,simprocAttr]
     refine .inl ⟨⟨[],rdH s D r,[],2,0⟩,⟨(vZero,false,r),vp_bad hc e3 e4 vZero_sz,rfl,rfl,rfl,rfl⟩,?_⟩
     constructor<;>simp only[go_sem,simprocAttr,decide_eq_true_eq,g4]<;>try ((repeat' apply And.intro)<;>first|rfl|omega|(congr 3; omega)|(congr 2; omega))
    rw[decide_eq_true hc]
    obtain⟨e3,e4,e5⟩:=hv.ok hc
    obtain⟨o1,o2,o3,o4⟩:=hA▸fin_ok hfq (by rw[hA]; exact hc)
    obtain⟨tk',i',pl',co'⟩:=r
    simp only at e3 e4 e5
    subst e3 e4 e5
    rw[if_neg (show ¬A.code≠0 by rw[hc]; decide)]at hn2
    have c93:=rd_is s D ⟨nT s A.at_,nQ s A.at_,pl',co'⟩ 93
    have c44:=rd_need s D ⟨nT s A.at_,nQ s A.at_,pl',co'⟩ 44
    have ta:=tk_ok s A.at_ o2
    have hsz2:∀B:An,B=F->B.code=0->szV B.v<=200000:=fun B hB h0=>by
     subst hB
     have:=hsz h0
     omega
    simp -implicitDefEqProofs (disch:=omega) only[go_sem,simprocAttr]
    refine CallOk.ofI (c93.at (st:=⟨[],_,_,_,_⟩) 0 1 (by decide) (by simp only; omega) (by simp only; omega) rfl (fun _ _=>rfl) (by rfl) (by rfl)) rfl rfl rfl rfl ?_
    rintro r1 st' ⟨_,_,rfl,nt5,q5,rfl⟩
    simp(disch:=omega) only[drop01,drop01_0,drop01_1,dropH_nil]at q5 ⊢
    cases k93:(nT s A.at_).sign 93 with
    |true=>
     rw[if_pos k93]at hn2
     simp -implicitDefEqProofs (disch:=omega) only[go_sem,simprocAttr]
     refine hKJ ⟨⟨60,cap',[A.v],rest',⟨nT s A.at_,nQ s A.at_,pl',co'⟩⟩,hn2.symm,ta.le,hsz2 _ hn2 rfl,fun _=>⟨by simp only; omega,by simpa using g1,by simpa using g3,g4⟩⟩ _ ?_
     rw[ArE.st_cons (by simp)]
     simp only[List.length_append,List.length_cons,List.length_nil,Nat.zero_add]
     constructor<;>simp only[go_sem,simprocAttr,decide_eq_true_eq,ltL_app,ltL_flatV,g4]<;>try ((repeat' apply And.intro)<;>first|rfl|omega|(congr 3; omega)|(congr 2; omega))
    |false=>
     rw[if_neg (by rw[k93]; decide)]at hn2
     simp -implicitDefEqProofs (disch:=omega) only[go_sem,simprocAttr]
     refine CallOk.ofI (c44.at (st:=⟨[],_,_,_,_⟩) 0 1 (by decide) (by simp only; omega) (by simp only; omega) rfl (fun _ _=>rfl) (by rfl) (by rfl)) rfl rfl rfl rfl ?_
     rintro r1 st' ⟨_,_,rfl,nt6,q6,rfl⟩
     simp(disch:=omega) only[drop01,drop01_0,drop01_1,dropH_nil]at q6 ⊢
     cases k44:(nT s A.at_).sign 44 with
     |false=>
      have hnr:needR 44 ⟨nT s A.at_,nQ s A.at_,pl',co'⟩=⟨nT s A.at_,nQ s A.at_,(nT s A.at_).at_,1⟩:=by
       unfold needR
       simp only
       rw[if_neg (by rw[k44]; decide)]
      rw[hnr]
      rw[if_neg (by rw[k44]; decide)]at hn2
      subst hn2
      simp -implicitDefEqProofs (disch:=omega) only[go_sem,simprocAttr]
      refine .inl ⟨⟨[],rdH s D ⟨nT s A.at_,nQ s A.at_,(nT s A.at_).at_,1⟩,[],2,0⟩,⟨(vZero,false,⟨nT s A.at_,nQ s A.at_,(nT s A.at_).at_,1⟩),vp_bad (by decide) rfl rfl vZero_sz,rfl,rfl,rfl,rfl⟩,?_⟩
      constructor<;>simp only[go_sem,simprocAttr,decide_eq_true_eq,g4]<;>try ((repeat' apply And.intro)<;>first|rfl|omega|(congr 3; omega)|(congr 2; omega))
     |true=>
      have hnr:needR 44 ⟨nT s A.at_,nQ s A.at_,pl',co'⟩=⟨nT s A.at_,nQ s A.at_,pl',co'⟩:=by
       unfold needR
       simp only
       rw[if_pos k44]
      rw[hnr]
      rw[if_pos k44]at hn2
      have tl:=ta.lt o3 (by have:=sign_kind k44; omega)
      have cn2:=rd_next s D ⟨nT s A.at_,nQ s A.at_,pl',co'⟩ ta.le (by omega)
      simp -implicitDefEqProofs (disch:=omega) only[go_sem,simprocAttr]
      refine CallOk.ofI (cn2.at (st:=⟨[],_,_,_,_⟩) 0 1 (by decide) (by simp only; omega) (by simp only; omega) rfl (fun _ _=>rfl) (by rfl) (by rfl)) rfl rfl rfl rfl ?_
      rintro r1 st' ⟨_,_,rfl,nt7,q7,rfl⟩
      simp(disch:=omega) only[drop01,drop01_0,drop01_1,dropH_nil]at q7 ⊢
      unfold nxtB nxtR
      simp only
      have tz:=(tk_ok s (nQ s A.at_) ta.le).le
      by_cases n2:nE s (nQ s A.at_)=0
      ·rw[if_pos n2,decide_eq_true n2]
       simp -implicitDefEqProofs (disch:=omega) only[go_sem,simprocAttr]
       refine⟨⟨⟨nQ s A.at_,pl',co',60,cap',[A.v],rest'⟩,⟨ta.le,n2,(by simp only[List.length_append,List.length_cons,List.length_nil]; omega),fun h=>absurd h (by simp),fun _=>⟨n,(by simp only; omega),hn2⟩,fun _=>⟨by simp only; omega,by simpa using g1,g2,by simpa using g3,g4⟩⟩⟩,by simp only; omega,?_⟩
       rw[ArI.st_cons (by simp)]
       simp only[arC,List.length_append,List.length_cons,List.length_nil,Nat.zero_add]
       constructor<;>simp only[go_sem,simprocAttr,decide_eq_true_eq,ltL_app,ltL_flatV,g4]<;>try ((repeat' apply And.intro)<;>first|rfl|omega|(congr 3; omega)|(congr 2; omega))
      ·rw[if_neg n2,decide_eq_false n2]
       obtain⟨n,rfl⟩:∃k,n=k+1:=⟨n-1,by omega⟩
       rw[fin_step,hfe _ n2]at hn2
       have hfb:fin s (.bad (nE s (nQ s A.at_)) (nP s (nQ s A.at_))) = .bad (nE s (nQ s A.at_)) (nP s (nQ s A.at_)):=if_pos n2
       rw[hfb,if_pos (show(An.bad (nE s (nQ s A.at_)) (nP s (nQ s A.at_))).code≠0 from n2)]at hn2
       subst hn2
       simp -implicitDefEqProofs (disch:=omega) only[go_sem,simprocAttr]
       refine .inl ⟨⟨[],rdH s D ⟨nT s A.at_,nQ s (nQ s A.at_),nP s (nQ s A.at_),nE s (nQ s A.at_)⟩,[],2,0⟩,⟨(vZero,false,⟨nT s A.at_,nQ s (nQ s A.at_),nP s (nQ s A.at_),nE s (nQ s A.at_)⟩),vp_bad n2 rfl rfl vZero_sz,rfl,rfl,rfl,rfl⟩,?_⟩
       constructor<;>simp only[go_sem,simprocAttr,decide_eq_true_eq,g4]<;>try ((repeat' apply And.intro)<;>first|rfl|omega|(congr 3; omega)|(congr 2; omega))
  ·simp only[ArI.st_cons (d:=⟨q,pl,co,ii,cap,l,rest⟩) hn,arC]
   obtain⟨b1,b2,b3,b4,b5⟩:=hd.ii hn
   simp only at b1 b2 b3 b4 b5
   simp -implicitDefEqProofs (disch:=omega) only[go_sem,simprocAttr]
   refine BmOk.of (item_at_cons (hf q hqs hqe pl co) (st:=⟨[],_,_,_,_⟩) 15 24 ii cap l rest [] vNil vNil [] rfl (fun _ h=>by cases h) (arr_nodup b1) (by simp) (by simp) (by simp only; omega) (by simp only; omega) (by simp only; omega) b2 b3 b4 b5 (by omega) List.nodup_nil (fun _ h=>by cases h) (fun _ h=>by cases h) (fun _=>rfl) (by rfl) (by rfl) (by rfl) (by rfl) (arr_lkp5 b1 _ _ _ _ _ _)) rfl rfl rfl rfl ?_
   rintro r1 st' ⟨⟨v,vb,r⟩,cap',rest',nt',hv,rfl,q4,g1,g2,g3,g4,rfl⟩
   simp only[arr_dropI b1,List.cons_append,List.nil_append]at hv g1 g2 g3 g4 q4 ⊢
   obtain⟨i2,hi2⟩:∃k,k=18+(ii+1+8+4):=⟨_,rfl⟩
   rw[<-hi2,show 19+(ii+1+8+4)=i2+1 by omega]
   have hi3:25<=i2:=by omega
   have hi4:ii<i2:=by omega
   clear hi2
   have hvb:=hv.b
   simp only at hvb
   subst hvb
   obtain⟨n,hn1,hn2⟩:=(show ∃n,s.size<q+n/\rItems s f n q l=F from hd.go hn)
   obtain⟨n,rfl⟩:∃k,n=k+1:=⟨n-1,by omega⟩
   rw[fin_step]at hn2
   have hfq:=hfo q hqs
   generalize hA:fin s (f q)=A at *
   by_cases hc:A.code=0
   rotate_left
   ·rw[decide_eq_false hc]
    rw[if_pos hc]at hn2
    subst hn2
    obtain⟨e3,e4⟩:=hv.no hc
    simp only at e3 e4
    simp -implicitDefEqProofs (disch:=omega) only[go_sem,simprocAttr]
    refine .inl ⟨⟨[],rdH s D r,[],2,0⟩,⟨(vZero,false,r),vp_bad hc e3 e4 vZero_sz,rfl,rfl,rfl,rfl⟩,?_⟩
    constructor<;>simp only[go_sem,simprocAttr,decide_eq_true_eq,g4]<;>try ((repeat' apply And.intro)<;>first|rfl|omega|(congr 3; omega)|(congr 2; omega))
   rw[decide_eq_true hc]
   obtain⟨e3,e4,e5⟩:=hv.ok hc
   obtain⟨o1,o2,o3,o4⟩:=hA▸fin_ok hfq (by rw[hA]; exact hc)
   obtain⟨tk',i',pl',co'⟩:=r
   simp only at e3 e4 e5
   subst e3 e4 e5
   rw[if_neg (show ¬A.code≠0 by rw[hc]; decide)]at hn2
   have c93:=rd_is s D ⟨nT s A.at_,nQ s A.at_,pl',co'⟩ 93
   have c44:=rd_need s D ⟨nT s A.at_,nQ s A.at_,pl',co'⟩ 44
   have ta:=tk_ok s A.at_ o2
   have hsz2:∀B:An,B=F->B.code=0->szV B.v<=200000:=fun B hB h0=>by
    subst hB
    have:=hsz h0
    omega
   simp -implicitDefEqProofs (disch:=omega) only[go_sem,simprocAttr]
   refine CallOk.ofI (c93.at (st:=⟨[],_,_,_,_⟩) 0 1 (by decide) (by simp only; omega) (by simp only; omega) rfl (fun _ _=>rfl) (by rfl) (by rfl)) rfl rfl rfl rfl ?_
   rintro r1 st' ⟨_,_,rfl,nt5,q5,rfl⟩
   simp(disch:=omega) only[drop01,drop01_0,drop01_1,dropH_nil]at q5 ⊢
   cases k93:(nT s A.at_).sign 93 with
   |true=>
    rw[if_pos k93]at hn2
    simp -implicitDefEqProofs (disch:=omega) only[go_sem,simprocAttr]
    refine hKJ ⟨⟨i2,cap',(l++[A.v]),rest',⟨nT s A.at_,nQ s A.at_,pl',co'⟩⟩,hn2.symm,ta.le,hsz2 _ hn2 rfl,fun _=>⟨by simp only; omega,by simpa using g1,by simpa using g3,g4⟩⟩ _ ?_
    rw[ArE.st_cons (by simp)]
    simp only[List.length_append,List.length_cons,List.length_nil,Nat.zero_add]
    refine⟨?_,by simp(disch:=omega) only[tok_T,tok_F,toks_T,toks_F,ob_T,ob_F,obs_T,obs_F,Bool.true_and,Bool.and_eq_true,go_sem,simprocAttr,decide_eq_true_eq,ltL_app,ltL_flatV,g4]<;>try ((repeat' apply And.intro)<;>first|rfl|omega|(congr 3; omega)|(congr 2; omega)),?_,?_,?_,?_,?_⟩<;>simp only[go_sem,simprocAttr,decide_eq_true_eq,ltL_app,ltL_flatV,g4]<;>try ((repeat' apply And.intro)<;>first|rfl|omega|(congr 3; omega)|(congr 2; omega))
   |false=>
    rw[if_neg (by rw[k93]; decide)]at hn2
    simp -implicitDefEqProofs (disch:=omega) only[go_sem,simprocAttr]
    refine CallOk.ofI (c44.at (st:=⟨[],_,_,_,_⟩) 0 1 (by decide) (by simp only; omega) (by simp only; omega) rfl (fun _ _=>rfl) (by rfl) (by rfl)) rfl rfl rfl rfl ?_
    rintro r1 st' ⟨_,_,rfl,nt6,q6,rfl⟩
    simp(disch:=omega) only[drop01,drop01_0,drop01_1,dropH_nil]at q6 ⊢
    cases k44:(nT s A.at_).sign 44 with
    |false=>
     have hnr:needR 44 ⟨nT s A.at_,nQ s A.at_,pl',co'⟩=⟨nT s A.at_,nQ s A.at_,(nT s A.at_).at_,1⟩:=by
      unfold needR
      simp only
      rw[if_neg (by rw[k44]; decide)]
     rw[hnr]
     rw[if_neg (by rw[k44]; decide)]at hn2
     subst hn2
     simp -implicitDefEqProofs (disch:=omega) only[go_sem,simprocAttr]
     refine .inl ⟨⟨[],rdH s D ⟨nT s A.at_,nQ s A.at_,(nT s A.at_).at_,1⟩,[],2,0⟩,⟨(vZero,false,⟨nT s A.at_,nQ s A.at_,(nT s A.at_).at_,1⟩),vp_bad (by decide) rfl rfl vZero_sz,rfl,rfl,rfl,rfl⟩,?_⟩
     constructor<;>simp only[go_sem,simprocAttr,decide_eq_true_eq,g4]<;>try ((repeat' apply And.intro)<;>first|rfl|omega|(congr 3; omega)|(congr 2; omega))
    |true=>
     have hnr:needR 44 ⟨nT s A.at_,nQ s A.at_,pl',co'⟩=⟨nT s A.at_,nQ s A.at_,pl',co'⟩:=by
      unfold needR
      simp only
      rw[if_pos k44]
     rw[hnr]
     rw[if_pos k44]at hn2
     have tl:=ta.lt o3 (by have:=sign_kind k44; omega)
     have cn2:=rd_next s D ⟨nT s A.at_,nQ s A.at_,pl',co'⟩ ta.le (by omega)
     simp -implicitDefEqProofs (disch:=omega) only[go_sem,simprocAttr]
     refine CallOk.ofI (cn2.at (st:=⟨[],_,_,_,_⟩) 0 1 (by decide) (by simp only; omega) (by simp only; omega) rfl (fun _ _=>rfl) (by rfl) (by rfl)) rfl rfl rfl rfl ?_
     rintro r1 st' ⟨_,_,rfl,nt7,q7,rfl⟩
     simp(disch:=omega) only[drop01,drop01_0,drop01_1,dropH_nil]at q7 ⊢
     unfold nxtB nxtR
     simp only
     have tz:=(tk_ok s (nQ s A.at_) ta.le).le
     by_cases n2:nE s (nQ s A.at_)=0
     ·rw[if_pos n2,decide_eq_true n2]
      simp -implicitDefEqProofs (disch:=omega) only[go_sem,simprocAttr]
      refine⟨⟨⟨nQ s A.at_,pl',co',i2,cap',(l++[A.v]),rest'⟩,⟨ta.le,n2,(by simp only[List.length_append,List.length_cons,List.length_nil]; omega),fun h=>absurd h (by simp),fun _=>⟨n,(by simp only; omega),hn2⟩,fun _=>⟨by simp only; omega,by simpa using g1,g2,by simpa using g3,g4⟩⟩⟩,by simp only; omega,?_⟩
      rw[ArI.st_cons (by simp)]
      simp only[arC,List.length_append,List.length_cons,List.length_nil,Nat.zero_add]
      refine⟨?_,by simp(disch:=omega) only[tok_T,tok_F,toks_T,toks_F,ob_T,ob_F,obs_T,obs_F,Bool.true_and,Bool.and_eq_true,go_sem,simprocAttr,decide_eq_true_eq,ltL_app,ltL_flatV,g4]<;>try ((repeat' apply And.intro)<;>first|rfl|omega|(congr 3; omega)|(congr 2; omega)),?_,?_,?_,?_,?_⟩<;>simp only[go_sem,simprocAttr,decide_eq_true_eq,ltL_app,ltL_flatV,g4]<;>try ((repeat' apply And.intro)<;>first|rfl|omega|(congr 3; omega)|(congr 2; omega))
     ·rw[if_neg n2,decide_eq_false n2]
      obtain⟨n,rfl⟩:∃k,n=k+1:=⟨n-1,by omega⟩
      rw[fin_step,hfe _ n2]at hn2
      have hfb:fin s (.bad (nE s (nQ s A.at_)) (nP s (nQ s A.at_))) = .bad (nE s (nQ s A.at_)) (nP s (nQ s A.at_)):=if_pos n2
      rw[hfb,if_pos (show(An.bad (nE s (nQ s A.at_)) (nP s (nQ s A.at_))).code≠0 from n2)]at hn2
      subst hn2
      simp -implicitDefEqProofs (disch:=omega) only[go_sem,simprocAttr]
      refine .inl ⟨⟨[],rdH s D ⟨nT s A.at_,nQ s (nQ s A.at_),nP s (nQ s A.at_),nE s (nQ s A.at_)⟩,[],2,0⟩,⟨(vZero,false,⟨nT s A.at_,nQ s (nQ s A.at_),nP s (nQ s A.at_),nE s (nQ s A.at_)⟩),vp_bad n2 rfl rfl vZero_sz,rfl,rfl,rfl,rfl⟩,?_⟩
      constructor<;>simp only[go_sem,simprocAttr,decide_eq_true_eq,g4]<;>try ((repeat' apply And.intro)<;>first|rfl|omega|(congr 3; omega)|(congr 2; omega))
end Go.Proofs.YtcgmpcbkndpmbaaGreatDoor
