import Derived.Test.YtcgmpcbkndpmbaaGreatDoorGE12
import Derived.Test.YtcgmpcbkndpmbaaGreatDoorGE10
/-
 The reader: objects.
-/
open Go Go.Proofs Go.Pw Go.RowKit
namespace Go.Proofs.YtcgmpcbkndpmbaaGreatDoor
set_option maxRecDepth 4000
set_option linter.unusedVariables false
set_option linter.unusedSimpArgs false
attribute [local go_sem] Nat.le_refl Tk.cells Tryz.results49 drop01 drop01_0 drop01_1 dropH_nil str_eq str_one
def tab_io21:List Row:=[⟨#[false,false,false,false,false],[0,1],5⟩,⟨#[true,false,false,false,false],[1],4⟩,⟨#[false,true,false,false,false],[0,2],4⟩,⟨#[true,true,false,false,false],[2],3⟩,⟨#[false,true,true,false,false],[0],3⟩,⟨#[true,true,true,false,false],[3],2⟩,⟨#[true,true,true,true,false],[4],1⟩,⟨#[true,true,true,true,true],[],0⟩]
def io21_J (s:ByteArray)(D:Int)(r:RS)(v:V):List Bool->Unit->PS
 | [b0,b1,b2,b3,b4],d=>⟨(cd b0 (74,.agg (cellsV v)) (cd b1 (75,.ptr 0 0) (cd b2 (76,vB (nxtB s r)) (cd b4 (5,vB (nxtB s r)) [(0,.ptr 0 0),(4,.ptr 2 0),(8,.ptr 15 0)])))),[(0,.box 69 (.ptr 1 0::rdC D (cs b2 (nxtR s r) r))),(1,.box 94 [vS s,vI (cs b2 (nxtR s r) r).i]),(2,.box 33 (cs b3 (cellsV v) [vI 0,vB false,vI 0,vS ByteArray.empty,vNil,vNil])),(15,.box 33 (cellsV v))],[],16,0⟩
 |_,_=>⟨[],[],[],0,0⟩
def obN (s:ByteArray)(D m:Int)(q:Nat)(pl co:Int):PS:=⟨[(10,vB true),(9,.ptr 30 0),(8,.ptr 15 0),(7,.bm 74 [.ptr 0 0]),(6,vS ⟨#[125]⟩),(5,vB false),(4,.ptr 2 0),(0,.ptr 0 0),(1,vI m)],[(0,.box 69 (.ptr 1 0::rdC D ⟨nT s q,nQ s q,pl,co⟩)),(1,.box 94 [vS s,vI (nQ s q)]),(2,.box 33 [vI 0,vB false,vI 0,vS ByteArray.empty,vNil,vNil]),(15,.box 33 [vI 5,vB false,vI 0,vS ByteArray.empty,vNil,vNil]),(30,.box 26 [vNil])],[],31,0⟩
def obC (s:ByteArray)(D m:Int)(q:Nat)(pl co:Int)(ii cap kt:Nat)(l:List V)(rest:List PV)(ks:List ByteArray):PS:=⟨[(10,vB false),(9,.ptr 30 0),(8,.ptr 15 0),(7,.bm 74 [.ptr 0 0]),(6,vS ⟨#[125]⟩),(5,vB false),(4,.ptr 2 0),(0,.ptr 0 0),(1,vI m)],[(0,.box 69 (.ptr 1 0::rdC D ⟨nT s q,nQ s q,pl,co⟩)),(1,.box 94 [vS s,vI (nQ s q)]),(2,.box 33 [vI 0,vB false,vI 0,vS ByteArray.empty,vNil,vNil]),(15,.box 33 [vI 5,vB false,vI 0,vS ByteArray.empty,.ms ii 0 l.length cap,vNil]),(30,.box 26 [.row kt (encT ks)]),(ii,.box 33 (flatV l++rest))],[(kt,⟨9,1,ks.length⟩)],ii+1,kt+1⟩
structure ObI where
 q:Nat
 pl:Int
 co:Int
 ii:Nat
 cap:Nat
 kt:Nat
 l:List V
 rest:List PV
 ks:List ByteArray
def ObI.st (s:ByteArray)(D m:Int)(d:ObI):PS:=match d.l with
 | []=>obN s D m d.q d.pl d.co
 |x::r=>obC s D m d.q d.pl d.co d.ii d.cap d.kt (x::r) d.rest d.ks
structure ObK (s:ByteArray) (ks:List ByteArray) (l:List V):Prop where
 ord:∃K I,OrdI ks l K I
 txt:∀k∈ks,isT k=true
 few:fewT ks
theorem ObK.nil (s:ByteArray):ObK s [] []:=⟨⟨[],[],OrdI.nil⟩,fun k h=>(by cases h),fun k h=>(by cases h)⟩
theorem ObK.step {s:ByteArray}{ks:List ByteArray}{l:List V}(h:ObK s ks l){k:ByteArray}(hk:k ∉ ks)(ht:isT k=true)(hz:k.size<=1000000)(v:V):ObK s (ks++[k]) (l++[v]):=by
 obtain⟨⟨K,I,ho⟩,h2,h3⟩:=h
 refine⟨⟨_,_,ho.step hk v⟩,fun x hx=>?_,fun x hx=>?_⟩
 ·rcases List.mem_append.1 hx with hx|hx
  ·exact h2 x hx
  ·rw[List.mem_singleton]at hx; subst hx; exact ht
 ·rcases List.mem_append.1 hx with hx|hx
  ·exact h3 x hx
  ·rw[List.mem_singleton]at hx; subst hx; exact hz
theorem ObK.len {s:ByteArray}{ks:List ByteArray}{l:List V}(h:ObK s ks l):ks.length=l.length:=by
 obtain⟨⟨K,I,ho⟩,h2,h3⟩:=h
 exact ho.len2
theorem ObK.objF {s:ByteArray}{ks:List ByteArray}{l:List V}(h:ObK s ks l):objF ks l = .tup [.agg (cellsV (objV ks l)),vI 0]:=by
 obtain⟨⟨K,I,ho⟩,h2,h3⟩:=h
 exact objF_ord ho h2
structure ObOk (s:ByteArray) (f:Nat->An) (i:Nat) (F:An) (d:ObI):Prop where
 qs:d.q<=s.size
 qe:nE s d.q=0
 len:d.l.length<=d.q
 nil:d.l=[]->d.q=i
 k:ObK s d.ks d.l
 go:d.l≠[]->∃n,s.size<d.q+n/\rMems s f n d.q d.ks d.l=F
 ii:d.l≠[]->31<=d.ii/\d.l.length<=d.cap/\d.cap<=maxLen/\d.rest.length=(d.cap-d.l.length)*6/\∀x y,PV.ltL x y d.rest=true
theorem ObI.st_cons {s:ByteArray}{D m:Int}{d:ObI}(h:d.l≠[]):d.st s D m=obC s D m d.q d.pl d.co d.ii d.cap d.kt d.l d.rest d.ks:=by
 unfold ObI.st
 cases hl:d.l with
 |nil=>exact absurd hl h
 |cons x r=>rfl
theorem ObI.st_nil {s:ByteArray}{D m:Int}{d:ObI}(h:d.l=[]):d.st s D m=obN s D m d.q d.pl d.co:=by
 unfold ObI.st
 rw[h]
structure ObE where
 ii:Nat
 cap:Nat
 kt:Nat
 l:List V
 rest:List PV
 ks:List ByteArray
 r:RS
def ObE.st (s:ByteArray)(D:Int)(d:ObE):PS:=match d.l with
 | []=>⟨[(9,.ptr 30 0),(8,.ptr 15 0),(4,.ptr 2 0),(0,.ptr 0 0)],[(0,.box 69 (.ptr 1 0::rdC D d.r)),(1,.box 94 [vS s,vI d.r.i]),(2,.box 33 [vI 0,vB false,vI 0,vS ByteArray.empty,vNil,vNil]),(15,.box 33 [vI 5,vB false,vI 0,vS ByteArray.empty,vNil,vNil]),(30,.box 26 [vNil])],[],31,0⟩
 |x::q=>⟨[(9,.ptr 30 0),(8,.ptr 15 0),(4,.ptr 2 0),(0,.ptr 0 0)],[(0,.box 69 (.ptr 1 0::rdC D d.r)),(1,.box 94 [vS s,vI d.r.i]),(2,.box 33 [vI 0,vB false,vI 0,vS ByteArray.empty,vNil,vNil]),(15,.box 33 [vI 5,vB false,vI 0,vS ByteArray.empty,.ms d.ii 0 (x::q).length d.cap,vNil]),(30,.box 26 [.row d.kt (encT d.ks)]),(d.ii,.box 33 (flatV (x::q)++d.rest))],[(d.kt,⟨9,1,d.ks.length⟩)],d.ii+1,d.kt+1⟩
theorem ObE.st_cons {s:ByteArray}{D:Int}{d:ObE}(h:d.l≠[]):d.st s D=⟨[(9,.ptr 30 0),(8,.ptr 15 0),(4,.ptr 2 0),(0,.ptr 0 0)],[(0,.box 69 (.ptr 1 0::rdC D d.r)),(1,.box 94 [vS s,vI d.r.i]),(2,.box 33 [vI 0,vB false,vI 0,vS ByteArray.empty,vNil,vNil]),(15,.box 33 [vI 5,vB false,vI 0,vS ByteArray.empty,.ms d.ii 0 d.l.length d.cap,vNil]),(30,.box 26 [.row d.kt (encT d.ks)]),(d.ii,.box 33 (flatV d.l++d.rest))],[(d.kt,⟨9,1,d.ks.length⟩)],d.ii+1,d.kt+1⟩:=by
 unfold ObE.st
 cases hl:d.l with
 |nil=>exact absurd hl h
 |cons x r=>rfl
structure ObEOk (s:ByteArray) (F:An) (d:ObE):Prop where
 e:F = .good (objV d.ks d.l) d.r.i
 i:d.r.i<=s.size
 sz:szV (objV d.ks d.l)<=200000
 k:ObK s d.ks d.l
 len:d.l.length<=1000000
 ii:d.l≠[]->31<=d.ii/\d.l.length<=d.cap/\d.rest.length=(d.cap-d.l.length)*6/\∀x y,PV.ltL x y d.rest=true
theorem ob_nodup {ii:Nat}(h:31<=ii):([0,1,15,30,ii]:List Nat).Nodup:=by
 have h0:¬0=ii:=by omega
 have h1:¬1=ii:=by omega
 have h2:¬30=ii:=by omega
 have h3:¬15=ii:=by omega
 simp[h0,h1,h2,h3]
theorem ob_dropI {ii:Nat}(h:31<=ii)(a b c d e f:PObj):dropH [0,1,15,30,ii] [(0,a),(1,b),(2,c),(15,d),(30,e),(ii,f)]=[(2,c)]:=by
 have h0:¬0=ii:=by omega
 have h1:¬1=ii:=by omega
 have h2:¬2=ii:=by omega
 have h3:¬15=ii:=by omega
 simp[dropH,inL,h0,h1,h2,h3]
theorem ob_drop1 {ii:Nat}(h:31<=ii)(a b c d e f:PObj):dropH [ii] [(0,a),(1,b),(2,c),(15,d),(30,e),(ii,f)]=[(0,a),(1,b),(2,c),(15,d),(30,e)]:=by
 have h0:¬0=ii:=by omega
 have h1:¬1=ii:=by omega
 have h2:¬2=ii:=by omega
 have h3:¬15=ii:=by omega
 have h4:¬30=ii:=by omega
 simp[dropH,inL,h0,h1,h2,h3,h4]
theorem fzL_flatVo:∀l:List V,fzL (flatV l)=some (flatV l)
 | []=>rfl
 |v::r=>by
  have ih:=fzL_flatVo r
  rw[flatV_cons]
  simp only[cellsV,List.cons_append,List.nil_append]
  simp only[fzL,fz,ih]
theorem ob_args (ii kt cap:Nat)(l:List V)(ks:List ByteArray):fzAs (PV.mfL ii 6 (flatV l) [.row kt (encT ks),.ms ii 0 l.length cap])=some [.sl (encT ks),.sl (encV l)]:=by
 have h:PV.mf ii 6 (flatV l) (.ms ii 0 l.length cap) = .sl (encV l):=by
  rw[PV.mf,if_pos ⟨rfl,by rw[flatV_len]; omega⟩,List.drop_zero]
  have:=chunksV l []
  rw[List.append_nil]at this
  rw[this]
 have e:PV.mfL ii 6 (flatV l) [.row kt (encT ks),.ms ii 0 l.length cap]=[.row kt (encT ks),.sl (encV l)]:=by
  rw[PV.mfL,PV.mfL,h]
  rfl
 rw[e]
 rfl
theorem ob_dropK (k:Nat)(t:Tok):dropK [k] [(k,t)]=[]:=by simp[dropK,inL]
theorem ob_lkpK (k:Nat)(t:Tok):lkp [(k,t)] k=some t:=by simp[lkp]
theorem ob_lkp5 {ii:Nat}(h:31<=ii)(a b c d e f:PObj):lkp [(0,a),(1,b),(2,c),(15,d),(30,e),(ii,f)] ii=some f:=by
 have h0:¬ii=0:=by omega
 have h1:¬ii=1:=by omega
 have h2:¬ii=2:=by omega
 have h3:¬ii=15:=by omega
 have h4:¬ii=30:=by omega
 simp[lkp,h0,h1,h2,h3,h4]
set_option maxHeartbeats 64000000 in
theorem rd_obj (s:ByteArray)(hs:s.size<=20000)(D m:Int)(hm:m<D)(hm0:0<=m)(hD:D<9223372036854775808)(p:Nat)(hp:p<=s.size)(h1:nE s p=0)(t:Tk)(i:Nat)(e1:t=nT s p)(e2:i=nQ s p)(place code:Int)(h123:t.sign 123=true)(f:Nat->An)
  (hf:∀q,q<=s.size->nE s q=0->∀pl co,VOk 29 s D (m+1) ⟨nT s q,nQ s q,pl,co⟩ (fin s (f q))) (hfo:∀q,q<=s.size->AnOk s q (f q)) (hfe:∀q,nE s q≠0->f q = .bad (nE s q) (nP s q)) (hsz:AnOk s p (rObj s f i)):VOk 49 s D m ⟨t,i,place,code⟩ (fin s (rObj s f i)):=by
 have tk:=tk_ok s p hp
 have hi:i<=s.size:=by rw[e2]; exact tk.le
 have ci:=rd_is s D ⟨t,i,place,code⟩ 123
 have cn:=rd_next s D ⟨t,i,place,code⟩ hi (by omega)
 refine OkI.of_pwpG (by kernel_rfl) Tryz.func49 rfl (by kernel_rfl) (by kernel_rfl) (bar:=bar2 19 1000 (bar2 21 100 noBar)) ?_
 refine p_seq_k (fun K hK=>?_)
 simp -implicitDefEqProofs (disch:=omega) only[go_sem,simprocAttr]
 refine hK _ ?_
 clear hK
 refine p_seq_k (fun K hK=>?_)
 simp -implicitDefEqProofs (disch:=omega) only[go_sem,simprocAttr,decide_eq_false (show ¬D<=m by omega)]
 refine hK _ ?_
 clear hK
 refine p_seq_k (fun K hK=>?_)
 simp -implicitDefEqProofs (disch:=omega) only[go_sem,simprocAttr]
 refine hK _ ?_
 clear hK
 refine p_seq_k (fun K hK=>?_)
 simp -implicitDefEqProofs (disch:=omega) only[go_sem,simprocAttr]
 refine hK _ ?_
 clear hK
 refine p_seq_k (fun K hK=>?_)
 simp -implicitDefEqProofs (disch:=omega) only[go_sem,simprocAttr]
 refine CallOk.ofI (ci.at (st:=⟨[],_,_,_,_⟩) 0 1 (by decide) (by simp) (by simp) rfl (fun _ _=>rfl) (by rfl) (by rfl)) rfl rfl rfl rfl ?_
 rintro r1 st' ⟨_,_,rfl,nt1,q1,rfl⟩
 simp only at q1 ⊢
 rw[h123]
 simp -implicitDefEqProofs (disch:=omega) only[go_sem,simprocAttr,dropH,inL]
 refine hK _ ?_
 clear hK
 refine p_seq_k (fun K hK=>?_)
 simp -implicitDefEqProofs (disch:=omega) only[go_sem,simprocAttr]
 refine CallOk.ofI (cn.at (st:=⟨[],_,_,_,_⟩) 0 1 (by decide) (by simp) (by simp) rfl (fun _ _=>rfl) (by rfl) (by rfl)) rfl rfl rfl rfl ?_
 rintro r1 st' ⟨_,_,rfl,nt2,q2,rfl⟩
 simp only at q2 ⊢
 generalize hF:rObj s f i=F at *
 unfold rObj at hF
 unfold nxtB nxtR
 simp only
 by_cases n1:nE s i=0
 rotate_left
 ·rw[if_neg n1,decide_eq_false n1]
  rw[if_pos n1]at hF
  subst hF
  simp -implicitDefEqProofs (disch:=omega) only[go_sem,simprocAttr,dropH,inL]
  refine .inl ⟨⟨[],rdH s D ⟨t,nQ s i,nP s i,nE s i⟩,[],2,0⟩,⟨(vZero,false,⟨t,nQ s i,nP s i,nE s i⟩),vp_bad n1 rfl rfl vZero_sz,rfl,rfl,rfl,rfl⟩,?_⟩
  constructor<;>simp only[go_sem,simprocAttr,decide_eq_true_eq,Int.natCast_add,Int.natCast_one]<;>try ((repeat' apply And.intro)<;>first|rfl|omega|(congr 3; omega)|(congr 2; omega))
 rw[if_pos n1,decide_eq_true n1]
 rw[if_neg (show ¬nE s i≠0 by rw[n1]; decide)]at hF
 simp -implicitDefEqProofs (disch:=omega) only[go_sem,simprocAttr,dropH,inL]
 refine hK _ ?_
 clear hK
 refine p_seq_k (fun K hK=>?_)
 simp -implicitDefEqProofs (disch:=omega) only[go_sem,simprocAttr]
 refine hK _ ?_
 clear hK
 have t2:=tk_ok s i hi
 refine p_join (D:={ d:ObE // ObEOk s F d }) (fun d=>d.1.st s D) ?_ ?_
 ·
  rintro⟨⟨ii,cap,kt,l,rest,ks,r⟩,hd⟩ st hw
  have hri:=hd.i
  have cn:=rd_next s D r hri (by omega)
  have hk:=hd.k
  have hkl:=hk.len
  have hll:=hd.len
  simp only at hri cn hk hkl hll
  have co:=object_ok ks l hk.few (by omega) hll
  rw[hk.objF]at co
  refine p_seq_k (fun K hK=>?_)
  simp -implicitDefEqProofs (disch:=omega) only[go_sem,simprocAttr]
  have hvp:=hd.e▸vp_next (s:=s) (r:=r) hd.sz
  simp only at hvp
  cases l with
  |nil=>
   obtain rfl:ks=[]:=List.eq_nil_of_length_eq_zero hkl
   refine p_weak hw ?_
   simp only[ObE.st]
   generalize objV [] []=w at *
   rw[encT_nil,encV_nil]at co
   simp only[cellsV]at co
   simp -implicitDefEqProofs (disch:=omega) only[go_sem,simprocAttr]
   with_reducible refine CallOk.of co rfl ?_
   simp -implicitDefEqProofs (disch:=omega) only[go_sem,simprocAttr]
   refine hK _ ?_
   clear hK
   simp -implicitDefEqProofs (disch:=omega) only[go_sem,simprocAttr]
   refine p_tab2 (by decide) ?_
   refine p_tableJ (by decide) tab_io21 (by kernel_rfl) (Unit) (io21_J s D r w) (fun _ _=>True) () [false,false,false,false,false] [true,true,true,true,true] rfl rfl trivial ?_ ?_ ?_
   ·simp only[io21_J]
    constructor<;>simp only[go_sem,simprocAttr,decide_eq_true_eq,cellsV]<;>try ((repeat' apply And.intro)<;>first|rfl|omega|(congr 3; omega)|(congr 2; omega))
   ·rintro⟨⟩ hd
    simp only[io21_J]at hd ⊢
    simp -implicitDefEqProofs (disch:=omega) only[go_sem,simprocAttr,cellsV]
    refine .inl ⟨⟨[],rdH s D (nxtR s r),[],2,0⟩,⟨(w,nxtB s r,nxtR s r),hvp,rfl,rfl,rfl,rfl⟩,?_⟩
    constructor<;>simp only[go_sem,simprocAttr,decide_eq_true_eq,cellsV]<;>try ((repeat' apply And.intro)<;>first|rfl|omega|(congr 3; omega)|(congr 2; omega))
   intro get arr hget
   obtain⟨g0,g1,g2,g3,g4⟩:get 0=_/\get 1=_/\get 2=_/\get 3=_/\get 4=_:=⟨hget 0,hget 1,hget 2,hget 3,hget 4⟩
   simp only[List.getElem?_cons_zero,List.getElem?_cons_succ]at g0 g1 g2 g3 g4
   clear hget
   simp only[tab_io21,allE,allL,and_true,List.set_cons_zero,List.set_cons_succ]
   repeat' apply And.intro
   all_goals
    rintro⟨⟩ hd
    simp only[g0,g1,g2,g3,g4,b_some,io21_J]at hd ⊢
    clear g0 g1 g2 g3 g4
    refine .inl ?_
    simp -implicitDefEqProofs (disch:=omega) only[go_sem,simprocAttr,cellsV,dropH,inL]
    try
     refine CallOk.ofI (cn.at (st:=⟨[],_,_,_,_⟩) 0 1 (by decide) (by simp) (by simp) rfl (fun _ _=>rfl) (by rfl) (by rfl)) rfl rfl rfl rfl ?_
     rintro r1 st' ⟨_,_,rfl,nt9,q9,rfl⟩
     simp only at q9
     simp -implicitDefEqProofs (disch:=omega) only[go_sem,simprocAttr,dropH,inL]
    first|refine⟨(),trivial,?_⟩|refine⟨(),?_⟩|skip
    constructor<;>simp only[go_sem,simprocAttr,decide_eq_true_eq,cellsV]<;>try ((repeat' apply And.intro)<;>first|rfl|omega|(congr 3; omega)|(congr 2; omega))
  |cons x0 r0=>
   obtain⟨b1,b2,b3,b4⟩:=hd.ii (by simp)
   simp only at b1 b2 b3 b4
   have b5:∀a b,PV.ltL a b (flatV (x0::r0)++rest)=true:=fun a b=>by rw[ltL_app,ltL_flatV,b4]; rfl
   refine p_weak hw ?_
   rw[ObE.st_cons (by simp)]
   simp only
   clear hd hw
   generalize objV ks (x0::r0)=w at *
   generalize x0::r0=l at *
   simp -implicitDefEqProofs (disch:=omega) only[go_sem,simprocAttr]
   refine CallOk.ofI (OkI.freezeM (st:=⟨[],_,_,_,_⟩) 6 (l.length*6) (ob_lkp5 b1 _ _ _ _ _ _) (by rw[flat_app1]; exact fzL_flatVo l) (OkI.ofQ (Ok.q co) (ob_args ii kt cap l ks))) rfl rfl rfl rfl ?_
   rintro r1 st1 ⟨rfl,rfl⟩
   simp only[ob_drop1 b1]
   simp -implicitDefEqProofs (disch:=omega) only[go_sem,simprocAttr,cellsV]
   refine hK _ ?_
   clear hK
   simp -implicitDefEqProofs (disch:=omega) only[go_sem,simprocAttr,cellsV]
   refine p_tab2 (by decide) ?_
   refine p_tableJ (by decide) tab_io21 (by kernel_rfl) (Unit) (io21_J s D r w) (fun _ _=>True) () [false,false,false,false,false] [true,true,true,true,true] rfl rfl trivial ?_ ?_ ?_
   ·simp only[io21_J]
    constructor<;>simp only[go_sem,simprocAttr,decide_eq_true_eq,cellsV]<;>try ((repeat' apply And.intro)<;>first|rfl|omega|(congr 3; omega)|(congr 2; omega))
   ·rintro⟨⟩ hd
    simp only[io21_J]at hd ⊢
    simp -implicitDefEqProofs (disch:=omega) only[go_sem,simprocAttr,cellsV]
    refine .inl ⟨⟨[],rdH s D (nxtR s r),[],2,0⟩,⟨(w,nxtB s r,nxtR s r),hvp,rfl,rfl,rfl,rfl⟩,?_⟩
    constructor<;>simp only[go_sem,simprocAttr,decide_eq_true_eq,cellsV]<;>try ((repeat' apply And.intro)<;>first|rfl|omega|(congr 3; omega)|(congr 2; omega))
   intro get arr hget
   obtain⟨g0,g1,g2,g3,g4⟩:get 0=_/\get 1=_/\get 2=_/\get 3=_/\get 4=_:=⟨hget 0,hget 1,hget 2,hget 3,hget 4⟩
   simp only[List.getElem?_cons_zero,List.getElem?_cons_succ]at g0 g1 g2 g3 g4
   clear hget
   simp only[tab_io21,allE,allL,and_true,List.set_cons_zero,List.set_cons_succ]
   repeat' apply And.intro
   all_goals
    rintro⟨⟩ hd
    simp only[g0,g1,g2,g3,g4,b_some,io21_J]at hd ⊢
    clear g0 g1 g2 g3 g4
    refine .inl ?_
    simp -implicitDefEqProofs (disch:=omega) only[go_sem,simprocAttr,cellsV,dropH,inL]
    try
     refine CallOk.ofI (cn.at (st:=⟨[],_,_,_,_⟩) 0 1 (by decide) (by simp) (by simp) rfl (fun _ _=>rfl) (by rfl) (by rfl)) rfl rfl rfl rfl ?_
     rintro r1 st' ⟨_,_,rfl,nt9,q9,rfl⟩
     simp only at q9
     simp -implicitDefEqProofs (disch:=omega) only[go_sem,simprocAttr,dropH,inL]
    first|refine⟨(),trivial,?_⟩|refine⟨(),?_⟩|skip
    constructor<;>simp only[go_sem,simprocAttr,decide_eq_true_eq,cellsV]<;>try ((repeat' apply And.intro)<;>first|rfl|omega|(congr 3; omega)|(congr 2; omega))
 ·
  intro KJ hKJ
  refine p_seq_k (fun K hK=>?_)
  simp -implicitDefEqProofs (disch:=omega) only[go_sem,simprocAttr]
  refine hK _ ?_
  clear hK
  simp -implicitDefEqProofs (disch:=omega) only[go_sem,simprocAttr]
  refine p_loop (ι:={ d:ObI // ObOk s f i F d }) (fun d=>d.1.st s D m) (fun d=>s.size+1-d.1.q) ⟨⟨i,place,code,0,0,0,[],[],[]⟩,⟨hi,n1,Nat.zero_le _,fun _=>rfl,ObK.nil s,fun h=>absurd rfl h,fun h=>absurd rfl h⟩⟩ ?_ ?_
  ·simp only[ObI.st,obN]
   constructor<;>simp only[go_sem,simprocAttr,decide_eq_true_eq,Int.natCast_add,Int.natCast_one]<;>try ((repeat' apply And.intro)<;>first|rfl|omega|(congr 3; omega)|(congr 2; omega))
  rintro⟨⟨q,pl,co,ii,cap,kt,l,rest,ks⟩,hd⟩
  have hqs:q<=s.size:=hd.qs
  have hqe:nE s q=0:=hd.qe
  have hql:l.length<=q:=hd.len
  have hko:ObK s ks l:=hd.k
  have hkl:=hko.len
  have hz2:nQ s (nQ s q)<=s.size:=(tk_ok s _ (tk_ok s q hqs).le).le
  by_cases hn:l=[]
  ·simp only[ObI.st_nil (d:=⟨q,pl,co,ii,cap,kt,l,rest,ks⟩) hn,obN]
   have hq:q=i:=hd.nil hn
   subst hn
   obtain rfl:ks=[]:=List.eq_nil_of_length_eq_zero hkl
   have c93:=rd_is s D ⟨nT s q,nQ s q,pl,co⟩ 125
   simp -implicitDefEqProofs (disch:=omega) only[go_sem,simprocAttr]
   refine CallOk.ofI (c93.at (st:=⟨[],_,_,_,_⟩) 0 1 (by decide) (by simp) (by simp) rfl (fun _ _=>rfl) (by rfl) (by rfl)) rfl rfl rfl rfl ?_
   rintro r1 st' ⟨_,_,rfl,nt3,q3,rfl⟩
   simp only at q3 ⊢
   cases h93:(nT s q).sign 125 with
   |true=>
    simp -implicitDefEqProofs (disch:=omega) only[go_sem,simprocAttr,dropH,inL]
    refine hKJ ⟨⟨0,0,0,[],[],[],⟨nT s q,nQ s q,pl,co⟩⟩,?_⟩ _ ?_
    ·rw[hq]at h93 ⊢
     rw[if_pos h93]at hF
     exact⟨by rw[<-hF]; simp only[OrdI.nil.val],(tk_ok s i hi).le,(by rw[OrdI.nil.val]; decide),ObK.nil s,Nat.zero_le _,fun h=>absurd rfl h⟩
    ·simp only[ObE.st]
     constructor<;>simp only[go_sem,simprocAttr,decide_eq_true_eq,Int.natCast_add,Int.natCast_one]<;>try ((repeat' apply And.intro)<;>first|rfl|omega|(congr 3; omega)|(congr 2; omega))
   |false=>
    simp -implicitDefEqProofs (disch:=omega) only[go_sem,simprocAttr,dropH,inL]
    refine BmOk.of (member_at_nil hs hqs hqe (t:=nT s q) (i:=nQ s q) rfl rfl (f:=f) (fun _ h=>hf _ hz2 h pl co) 15 30 (st:=⟨[],_,_,_,_⟩) (by decide) (by simp) (by simp) (by simp) (by simp) (by rfl) (by rfl) (by rfl) (by rfl)) rfl rfl rfl rfl ?_
    rintro r1 st' ⟨⟨v,vb,r⟩,nt',hv,rfl,q4,gF,gT⟩
    have hvb:=hv.b
    simp only at hvb
    subst hvb
    obtain⟨n,hn1,hn2⟩:=(show ∃n,s.size<q+n/\rMems s f n q [] []=F from⟨s.size+1,by omega,by rw[<-hF,if_neg (by rw[<-hq,h93]; decide),hq]⟩)
    obtain⟨n,rfl⟩:∃k,n=k+1:=⟨n-1,by omega⟩
    rw[mem_step hfe hqe]at hn2
    have hmo:=fun h=>mem_ok hfo hqs hqe (ks:=[]) h
    generalize hA:memB s f q []=A at *
    by_cases hc:A.code=0
    rotate_left
    ·obtain⟨nx',q5,rfl⟩:=gF (decide_eq_false hc)
     clear gF gT
     simp only[dropH,inL,dropK_nil,List.append_nil,List.cons_append,List.nil_append]at q4 q5 ⊢
     rw[decide_eq_false hc]
     rw[if_pos hc]at hn2
     subst hn2
     obtain⟨e3,e4⟩:=hv.no hc
     simp only at e3 e4
     simp -implicitDefEqProofs (disch:=omega) only[go_sem,simprocAttr]
     refine .inl ⟨⟨[],rdH s D r,[],2,0⟩,⟨(vZero,false,r),vp_bad hc e3 e4 vZero_sz,rfl,rfl,rfl,rfl⟩,?_⟩
     constructor<;>simp only[go_sem,simprocAttr,decide_eq_true_eq]<;>try ((repeat' apply And.intro)<;>first|rfl|omega|(congr 3; omega)|(congr 2; omega))
    obtain⟨cap',rest',g1,g2,g3,g4,g5,rfl⟩:=gT (decide_eq_true hc)
    clear gF gT
    simp only[dropH,inL,dropK_nil,List.append_nil,List.cons_append,List.nil_append]at q4 g1 g2 g3 g4 g5 ⊢
    generalize 11+(nt3+8+4)=k2 at *
    rw[decide_eq_true hc]
    obtain⟨e3,e4,e5⟩:=hv.ok hc
    obtain⟨o5,o6,o1,o2,o3⟩:=hmo hc
    obtain⟨tk',i',pl',co'⟩:=r
    simp only at e3 e4 e5
    subst e3 e4 e5
    rw[if_neg (show ¬A.code≠0 by rw[hc]; decide)]at hn2
    have hkk:=hko.step o6 ((nT_props s q (numF_fit s)).1 o5) (by have:=(tk_ok s q hqs).size; have:=(tk_ok s q hqs).le; omega) A.v
    have hkl2:=hkk.len
    have c93:=rd_is s D ⟨nT s A.at_,nQ s A.at_,pl',co'⟩ 125
    have c44:=rd_need s D ⟨nT s A.at_,nQ s A.at_,pl',co'⟩ 44
    have ta:=tk_ok s A.at_ o2
    have hsz2:∀B:An,B=F->B.code=0->szV B.v<=200000:=fun B hB h0=>by
     subst hB
     have:=hsz h0
     omega
    simp -implicitDefEqProofs (disch:=omega) only[go_sem,simprocAttr]
    refine CallOk.ofI (c93.at (st:=⟨[],_,_,_,_⟩) 0 1 (by decide) (by simp only; omega) (by simp only; omega) rfl (fun _ _=>rfl) (by rfl) (by rfl)) rfl rfl rfl rfl ?_
    rintro r1 st' ⟨_,_,rfl,nt5,q5,rfl⟩
    simp(disch:=omega) only[drop01,drop01_0,drop01_1,dropH_nil]at q5 ⊢
    cases k93:(nT s A.at_).sign 125 with
    |true=>
     rw[if_pos k93]at hn2
     simp -implicitDefEqProofs (disch:=omega) only[go_sem,simprocAttr]
     refine hKJ ⟨⟨108,cap',k2,[A.v],rest',([]++[(nT s q).text]),⟨nT s A.at_,nQ s A.at_,pl',co'⟩⟩,hn2.symm,ta.le,hsz2 _ hn2 rfl,hkk,(by simp only[List.length_append,List.length_cons,List.length_nil]; omega),fun _=>⟨by simp only; omega,by simpa using g1,by simpa using g3,g4⟩⟩ _ ?_
     rw[ObE.st_cons (by simp)]
     simp only[List.length_append,List.length_cons,List.length_nil,Nat.zero_add]
     constructor<;>simp only[go_sem,simprocAttr,decide_eq_true_eq,ltL_app,ltL_flatV,g4]<;>try ((repeat' apply And.intro)<;>first|rfl|omega|(congr 3; omega)|(congr 2; omega))
    |false=>
     rw[if_neg (by rw[k93]; decide)]at hn2
     simp -implicitDefEqProofs (disch:=omega) only[go_sem,simprocAttr]
     refine CallOk.ofI (c44.at (st:=⟨[],_,_,_,_⟩) 0 1 (by decide) (by simp only; omega) (by simp only; omega) rfl (fun _ _=>rfl) (by rfl) (by rfl)) rfl rfl rfl rfl ?_
     rintro r1 st' ⟨_,_,rfl,nt6,q6,rfl⟩
     simp(disch:=omega) only[drop01,drop01_0,drop01_1,dropH_nil]at q6 ⊢
     cases k44:(nT s A.at_).sign 44 with
     |false=>
      have hnr:needR 44 ⟨nT s A.at_,nQ s A.at_,pl',co'⟩=⟨nT s A.at_,nQ s A.at_,(nT s A.at_).at_,1⟩:=by
       unfold needR
       simp only
       rw[if_neg (by rw[k44]; decide)]
      rw[hnr]
      rw[if_neg (by rw[k44]; decide)]at hn2
      subst hn2
      simp -implicitDefEqProofs (disch:=omega) only[go_sem,simprocAttr]
      refine .inl ⟨⟨[],rdH s D ⟨nT s A.at_,nQ s A.at_,(nT s A.at_).at_,1⟩,[],2,0⟩,⟨(vZero,false,⟨nT s A.at_,nQ s A.at_,(nT s A.at_).at_,1⟩),vp_bad (by decide) rfl rfl vZero_sz,rfl,rfl,rfl,rfl⟩,?_⟩
      constructor<;>simp only[go_sem,simprocAttr,decide_eq_true_eq,g4]<;>try ((repeat' apply And.intro)<;>first|rfl|omega|(congr 3; omega)|(congr 2; omega))
     |true=>
      have hnr:needR 44 ⟨nT s A.at_,nQ s A.at_,pl',co'⟩=⟨nT s A.at_,nQ s A.at_,pl',co'⟩:=by
       unfold needR
       simp only
       rw[if_pos k44]
      rw[hnr]
      rw[if_pos k44]at hn2
      have tl:=ta.lt o3 (by have:=sign_kind k44; omega)
      have cn2:=rd_next s D ⟨nT s A.at_,nQ s A.at_,pl',co'⟩ ta.le (by omega)
      simp -implicitDefEqProofs (disch:=omega) only[go_sem,simprocAttr]
      refine CallOk.ofI (cn2.at (st:=⟨[],_,_,_,_⟩) 0 1 (by decide) (by simp only; omega) (by simp only; omega) rfl (fun _ _=>rfl) (by rfl) (by rfl)) rfl rfl rfl rfl ?_
      rintro r1 st' ⟨_,_,rfl,nt7,q7,rfl⟩
      simp(disch:=omega) only[drop01,drop01_0,drop01_1,dropH_nil]at q7 ⊢
      unfold nxtB nxtR
      simp only
      have tz:=(tk_ok s (nQ s A.at_) ta.le).le
      by_cases n2:nE s (nQ s A.at_)=0
      ·rw[if_pos n2,decide_eq_true n2]
       simp -implicitDefEqProofs (disch:=omega) only[go_sem,simprocAttr]
       refine⟨⟨⟨nQ s A.at_,pl',co',108,cap',k2,[A.v],rest',([]++[(nT s q).text])⟩,⟨ta.le,n2,(by simp only[List.length_append,List.length_cons,List.length_nil]; omega),fun h=>absurd h (by simp),hkk,fun _=>⟨n,(by simp only; omega),hn2⟩,fun _=>⟨by simp only; omega,by simpa using g1,g2,by simpa using g3,g4⟩⟩⟩,by simp only; omega,?_⟩
       rw[ObI.st_cons (by simp)]
       simp only[obC,List.length_append,List.length_cons,List.length_nil,Nat.zero_add]
       constructor<;>simp only[go_sem,simprocAttr,decide_eq_true_eq,ltL_app,ltL_flatV,g4]<;>try ((repeat' apply And.intro)<;>first|rfl|omega|(congr 3; omega)|(congr 2; omega))
      ·rw[if_neg n2,decide_eq_false n2]
       obtain⟨n,rfl⟩:∃k,n=k+1:=⟨n-1,by omega⟩
       rw[rMems,if_pos n2]at hn2
       subst hn2
       simp -implicitDefEqProofs (disch:=omega) only[go_sem,simprocAttr]
       refine .inl ⟨⟨[],rdH s D ⟨nT s A.at_,nQ s (nQ s A.at_),nP s (nQ s A.at_),nE s (nQ s A.at_)⟩,[],2,0⟩,⟨(vZero,false,⟨nT s A.at_,nQ s (nQ s A.at_),nP s (nQ s A.at_),nE s (nQ s A.at_)⟩),vp_bad n2 rfl rfl vZero_sz,rfl,rfl,rfl,rfl⟩,?_⟩
       constructor<;>simp only[go_sem,simprocAttr,decide_eq_true_eq,g4]<;>try ((repeat' apply And.intro)<;>first|rfl|omega|(congr 3; omega)|(congr 2; omega))
  ·simp only[ObI.st_cons (d:=⟨q,pl,co,ii,cap,kt,l,rest,ks⟩) hn,obC]
   obtain⟨b1,b2,b3,b4,b5⟩:=hd.ii hn
   simp only at b1 b2 b3 b4 b5
   simp -implicitDefEqProofs (disch:=omega) only[go_sem,simprocAttr]
   refine BmOk.of (member_at_cons hs hqs hqe (t:=nT s q) (i:=nQ s q) rfl rfl (f:=f) (fun _ h=>hf _ hz2 h pl co) 15 30 ii cap kt l rest ks (st:=⟨[],_,_,_,_⟩) (ob_nodup b1) (by simp) (by simp) (by simp only; omega) (by simp only; omega) (by simp only; omega) (by simp only; omega) b2 b3 b4 b5 (by omega) (by omega) (ob_lkpK _ _) (by rfl) (by rfl) (by rfl) (by rfl) (ob_lkp5 b1 _ _ _ _ _ _)) rfl rfl rfl rfl ?_
   rintro r1 st' ⟨⟨v,vb,r⟩,nt',hv,rfl,q4,gF,gT⟩
   have hvb:=hv.b
   simp only at hvb
   subst hvb
   obtain⟨n,hn1,hn2⟩:=(show ∃n,s.size<q+n/\rMems s f n q ks l=F from hd.go hn)
   obtain⟨n,rfl⟩:∃k,n=k+1:=⟨n-1,by omega⟩
   rw[mem_step hfe hqe]at hn2
   have hmo:=fun h=>mem_ok hfo hqs hqe (ks:=ks) h
   generalize hA:memB s f q ks=A at *
   by_cases hc:A.code=0
   rotate_left
   ·obtain⟨nx',q5,rfl⟩:=gF (decide_eq_false hc)
    clear gF gT
    simp only[ob_dropI b1,ob_dropK,List.append_nil,List.cons_append,List.nil_append]at q4 q5 ⊢
    rw[decide_eq_false hc]
    rw[if_pos hc]at hn2
    subst hn2
    obtain⟨e3,e4⟩:=hv.no hc
    simp only at e3 e4
    simp -implicitDefEqProofs (disch:=omega) only[go_sem,simprocAttr]
    refine .inl ⟨⟨[],rdH s D r,[],2,0⟩,⟨(vZero,false,r),vp_bad hc e3 e4 vZero_sz,rfl,rfl,rfl,rfl⟩,?_⟩
    constructor<;>simp only[go_sem,simprocAttr,decide_eq_true_eq]<;>try ((repeat' apply And.intro)<;>first|rfl|omega|(congr 3; omega)|(congr 2; omega))
   obtain⟨cap',rest',g1,g2,g3,g4,g5,rfl⟩:=gT (decide_eq_true hc)
   clear gF gT
   simp only[ob_dropI b1,ob_dropK,List.append_nil,List.cons_append,List.nil_append]at q4 g1 g2 g3 g4 g5 ⊢
   obtain⟨i2,hi2⟩:∃k,k=60+(ii+1+8+4):=⟨_,rfl⟩
   rw[<-hi2,show 61+(ii+1+8+4)=i2+1 by omega]
   have hi3:31<=i2:=by omega
   have hi4:ii<i2:=by omega
   clear hi2
   rw[decide_eq_true hc]
   obtain⟨e3,e4,e5⟩:=hv.ok hc
   obtain⟨o5,o6,o1,o2,o3⟩:=hmo hc
   obtain⟨tk',i',pl',co'⟩:=r
   simp only at e3 e4 e5
   subst e3 e4 e5
   rw[if_neg (show ¬A.code≠0 by rw[hc]; decide)]at hn2
   have hkk:=hko.step o6 ((nT_props s q (numF_fit s)).1 o5) (by have:=(tk_ok s q hqs).size; have:=(tk_ok s q hqs).le; omega) A.v
   have hkl2:=hkk.len
   have c93:=rd_is s D ⟨nT s A.at_,nQ s A.at_,pl',co'⟩ 125
   have c44:=rd_need s D ⟨nT s A.at_,nQ s A.at_,pl',co'⟩ 44
   have ta:=tk_ok s A.at_ o2
   have hsz2:∀B:An,B=F->B.code=0->szV B.v<=200000:=fun B hB h0=>by
    subst hB
    have:=hsz h0
    omega
   simp -implicitDefEqProofs (disch:=omega) only[go_sem,simprocAttr]
   refine CallOk.ofI (c93.at (st:=⟨[],_,_,_,_⟩) 0 1 (by decide) (by simp only; omega) (by simp only; omega) rfl (fun _ _=>rfl) (by rfl) (by rfl)) rfl rfl rfl rfl ?_
   rintro r1 st' ⟨_,_,rfl,nt5,q5,rfl⟩
   simp(disch:=omega) only[drop01,drop01_0,drop01_1,dropH_nil]at q5 ⊢
   cases k93:(nT s A.at_).sign 125 with
   |true=>
    rw[if_pos k93]at hn2
    simp -implicitDefEqProofs (disch:=omega) only[go_sem,simprocAttr]
    refine hKJ ⟨⟨i2,cap',kt,(l++[A.v]),rest',(ks++[(nT s q).text]),⟨nT s A.at_,nQ s A.at_,pl',co'⟩⟩,hn2.symm,ta.le,hsz2 _ hn2 rfl,hkk,(by simp only[List.length_append,List.length_cons,List.length_nil]; omega),fun _=>⟨by simp only; omega,by simpa using g1,by simpa using g3,g4⟩⟩ _ ?_
    rw[ObE.st_cons (by simp)]
    simp only[List.length_append,List.length_cons,List.length_nil,Nat.zero_add]
    refine⟨?_,by simp(disch:=omega) only[tok_T,tok_F,toks_T,toks_F,ob_T,ob_F,obs_T,obs_F,Bool.true_and,Bool.and_eq_true,go_sem,simprocAttr,decide_eq_true_eq,ltL_app,ltL_flatV,g4]<;>try ((repeat' apply And.intro)<;>first|rfl|omega|(congr 3; omega)|(congr 2; omega)),?_,?_,?_,?_,?_⟩<;>simp only[go_sem,simprocAttr,decide_eq_true_eq,ltL_app,ltL_flatV,g4]<;>try ((repeat' apply And.intro)<;>first|rfl|omega|(congr 3; omega)|(congr 2; omega))
   |false=>
    rw[if_neg (by rw[k93]; decide)]at hn2
    simp -implicitDefEqProofs (disch:=omega) only[go_sem,simprocAttr]
    refine CallOk.ofI (c44.at (st:=⟨[],_,_,_,_⟩) 0 1 (by decide) (by simp only; omega) (by simp only; omega) rfl (fun _ _=>rfl) (by rfl) (by rfl)) rfl rfl rfl rfl ?_
    rintro r1 st' ⟨_,_,rfl,nt6,q6,rfl⟩
    simp(disch:=omega) only[drop01,drop01_0,drop01_1,dropH_nil]at q6 ⊢
    cases k44:(nT s A.at_).sign 44 with
    |false=>
     have hnr:needR 44 ⟨nT s A.at_,nQ s A.at_,pl',co'⟩=⟨nT s A.at_,nQ s A.at_,(nT s A.at_).at_,1⟩:=by
      unfold needR
      simp only
      rw[if_neg (by rw[k44]; decide)]
     rw[hnr]
     rw[if_neg (by rw[k44]; decide)]at hn2
     subst hn2
     simp -implicitDefEqProofs (disch:=omega) only[go_sem,simprocAttr]
     refine .inl ⟨⟨[],rdH s D ⟨nT s A.at_,nQ s A.at_,(nT s A.at_).at_,1⟩,[],2,0⟩,⟨(vZero,false,⟨nT s A.at_,nQ s A.at_,(nT s A.at_).at_,1⟩),vp_bad (by decide) rfl rfl vZero_sz,rfl,rfl,rfl,rfl⟩,?_⟩
     constructor<;>simp only[go_sem,simprocAttr,decide_eq_true_eq,g4]<;>try ((repeat' apply And.intro)<;>first|rfl|omega|(congr 3; omega)|(congr 2; omega))
    |true=>
     have hnr:needR 44 ⟨nT s A.at_,nQ s A.at_,pl',co'⟩=⟨nT s A.at_,nQ s A.at_,pl',co'⟩:=by
      unfold needR
      simp only
      rw[if_pos k44]
     rw[hnr]
     rw[if_pos k44]at hn2
     have tl:=ta.lt o3 (by have:=sign_kind k44; omega)
     have cn2:=rd_next s D ⟨nT s A.at_,nQ s A.at_,pl',co'⟩ ta.le (by omega)
     simp -implicitDefEqProofs (disch:=omega) only[go_sem,simprocAttr]
     refine CallOk.ofI (cn2.at (st:=⟨[],_,_,_,_⟩) 0 1 (by decide) (by simp only; omega) (by simp only; omega) rfl (fun _ _=>rfl) (by rfl) (by rfl)) rfl rfl rfl rfl ?_
     rintro r1 st' ⟨_,_,rfl,nt7,q7,rfl⟩
     simp(disch:=omega) only[drop01,drop01_0,drop01_1,dropH_nil]at q7 ⊢
     unfold nxtB nxtR
     simp only
     have tz:=(tk_ok s (nQ s A.at_) ta.le).le
     by_cases n2:nE s (nQ s A.at_)=0
     ·rw[if_pos n2,decide_eq_true n2]
      simp -implicitDefEqProofs (disch:=omega) only[go_sem,simprocAttr]
      refine⟨⟨⟨nQ s A.at_,pl',co',i2,cap',kt,(l++[A.v]),rest',(ks++[(nT s q).text])⟩,⟨ta.le,n2,(by simp only[List.length_append,List.length_cons,List.length_nil]; omega),fun h=>absurd h (by simp),hkk,fun _=>⟨n,(by simp only; omega),hn2⟩,fun _=>⟨by simp only; omega,by simpa using g1,g2,by simpa using g3,g4⟩⟩⟩,by simp only; omega,?_⟩
      rw[ObI.st_cons (by simp)]
      simp only[obC,List.length_append,List.length_cons,List.length_nil,Nat.zero_add]
      refine⟨?_,by simp(disch:=omega) only[tok_T,tok_F,toks_T,toks_F,ob_T,ob_F,obs_T,obs_F,Bool.true_and,Bool.and_eq_true,go_sem,simprocAttr,decide_eq_true_eq,ltL_app,ltL_flatV,g4]<;>try ((repeat' apply And.intro)<;>first|rfl|omega|(congr 3; omega)|(congr 2; omega)),?_,?_,?_,?_,?_⟩<;>simp only[go_sem,simprocAttr,decide_eq_true_eq,ltL_app,ltL_flatV,g4]<;>try ((repeat' apply And.intro)<;>first|rfl|omega|(congr 3; omega)|(congr 2; omega))
     ·rw[if_neg n2,decide_eq_false n2]
      obtain⟨n,rfl⟩:∃k,n=k+1:=⟨n-1,by omega⟩
      rw[rMems,if_pos n2]at hn2
      subst hn2
      simp -implicitDefEqProofs (disch:=omega) only[go_sem,simprocAttr]
      refine .inl ⟨⟨[],rdH s D ⟨nT s A.at_,nQ s (nQ s A.at_),nP s (nQ s A.at_),nE s (nQ s A.at_)⟩,[],2,0⟩,⟨(vZero,false,⟨nT s A.at_,nQ s (nQ s A.at_),nP s (nQ s A.at_),nE s (nQ s A.at_)⟩),vp_bad n2 rfl rfl vZero_sz,rfl,rfl,rfl,rfl⟩,?_⟩
      constructor<;>simp only[go_sem,simprocAttr,decide_eq_true_eq,g4]<;>try ((repeat' apply And.intro)<;>first|rfl|omega|(congr 3; omega)|(congr 2; omega))
end Go.Proofs.YtcgmpcbkndpmbaaGreatDoor
