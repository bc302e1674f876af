/-
  Contracts and plain laws on the way to the statement; each says its own conditions.
-/
import Derived.Test.YtcgmpcbkndpmbaaGreatDoorGE8
import Derived.Test.YtcgmpcbkndpmbaaGreatDoorGE9
import Derived.Test.YtcgmpcbkndpmbaaGreatDoorGE7
import Derived.Lib.IndexAny
import Derived.Lib.IndexLaws
import Derived.Test.YtcgmpcbkndpmbaaGreatDoorGE6
section
open Go Go.Proofs Go.Pw Go.RowKit
namespace Go.Proofs.YtcgmpcbkndpmbaaGreatDoor
set_option maxRecDepth 4000
set_option linter.unusedVariables false
set_option linter.unusedSimpArgs false
end Go.Proofs.YtcgmpcbkndpmbaaGreatDoor

end
section
open Go Go.Proofs Go.Pw Go.RowKit
namespace Go.Proofs.YtcgmpcbkndpmbaaGreatDoor
set_option maxRecDepth 4000
set_option linter.unusedVariables false
set_option linter.unusedSimpArgs false
theorem truth_ok (b:Bool):Ok Tryz.prog 52 [vB b] (.agg (cellsV (.mk 1 b 0 ByteArray.empty [] []))):=by
 refine Ok.of_pwp (by kernel_rfl) Tryz.func52 rfl (by kernel_rfl) (by kernel_rfl) ?_
 simp -implicitDefEqProofs (disch:=omega) only[go_sem,simprocAttr,Nat.le_refl,cellsV,encV_nil,encT_nil,Tryz.results52]
theorem vtext_ok (s:ByteArray):Ok Tryz.prog 50 [vS s] (.agg (cellsV (.mk 3 false 0 s [] []))):=by
 refine Ok.of_pwp (by kernel_rfl) Tryz.func50 rfl (by kernel_rfl) (by kernel_rfl) ?_
 simp -implicitDefEqProofs (disch:=omega) only[go_sem,simprocAttr,Nat.le_refl,cellsV,encV_nil,encT_nil,Tryz.results50]
end Go.Proofs.YtcgmpcbkndpmbaaGreatDoor

end
section
namespace Go.Pw
open Go Go.RowKit
set_option linter.unusedVariables false
set_option linter.unusedSimpArgs false
def cd {α:Type}(b:Bool)(x:α)(l:List α):List α:=match b with
 |true=>x::l
 |false=>l
def cs {α:Type}(b:Bool)(x y:α):α:=match b with
 |true=>x
 |false=>y
def andn (a b:Bool):Bool:=match a,b with
 |true,false=>true
 |_,_=>false
def cnt:List Bool->Nat
 | []=>0
 |true::r=>cnt r+1
 |false::r=>cnt r
def allE (F:List Bool->Nat->Prop):List Row->Prop
 | []=>True
 |e::t=>allL (F e.b.toList) e.rd/\allE F t
theorem allE_mem {F:List Bool->Nat->Prop}:∀{t:List Row},allE F t->∀e∈t,allL (F e.b.toList) e.rd
 | [],_,e,h=>by cases h
 |a::r,h,e,hm=>by
  rcases List.mem_cons.1 hm with rfl|hm
  ·exact h.1
  ·exact allE_mem h.2 e hm
def chkJ (l:List Oper)(tab:List Row):Bool:=
 (tab.all fun e=>(decide (Region.ready .any l.toArray e.b=e.rd)&&(e.m != 0||e.rd.isEmpty))&&((!e.rd.isEmpty||decide (e.b=Array.replicate l.length true))&&e.rd.all fun n=>tab.any fun e'=>decide (e'.m<e.m)&&decide (e'.b=e.b.setIfInBounds n true))) &&
  (tab[0]?).any fun e=>decide (e.b=Array.replicate l.length false)&&decide (e.m<=l.length)
theorem allL_map {α:Type}{F G:α->Prop}:∀{l:List α},(∀a∈l,F a->G a)->allL F l->allL G l
 | [],_,_=>trivial
 |a::r,h,k=>⟨h a (by simp) k.1,allL_map (fun x hx=>h x (by simp[hx])) k.2⟩
theorem allI_of {F:Nat->Row->Prop}:∀{t:List Row}{k:Nat},(∀(i:Nat)(e:Row),t[i]? = some e->F (k+i) e)->allI F k t
 | [],k,_=>trivial
 |e::r,k,h=>⟨h 0 e rfl,allI_of (fun i e' he=>by have:=h (i+1) e' (by simpa using he); rwa [show k+(i+1)=k+1+i by omega]at this)⟩
theorem stepU_mono' {P:Program}{arr:Array Oper}{o:Oper}{st:PS}{K K':PS->Prop}(hK:∀s,K s->K' s)(h:stepU P arr o st K):stepU P arr o st K':=by
 rcases h with h|h
 rotate_left
 ·exact .inr ⟨h.1,fun own S0 w0 N a w X hf hs=>Oper.wp_mono (fun a' w' ⟨st',hk,h2⟩=>⟨st',hK _ hk,h2⟩) (h.2 own S0 w0 N a w X hf hs)⟩
 refine .inl ?_
 simp only[dopsS]at h ⊢
 cases hg:o.guard with
 |none=>rw[hg]at h; exact stepN_mono (fun s hs=>hK _ hs) h
 |some gb=>
  obtain⟨g,b⟩:=gb
  rw[hg]at h
  simp only at h ⊢
  unfold guardK at h ⊢
  refine bindO_mono (fun d h=>bindO_mono (fun p h=>?_) h) h
  split at h
  ·exact⟨fun e=>stepN_mono (fun s hs=>hK _ hs) (h.1 e),fun e=>hK _ (h.2 e)⟩
  ·exact⟨fun e=>stepN_mono (fun s hs=>hK _ hs) (h.1 e),fun e=>hK _ (h.2 e)⟩
  ·exact h
theorem p_tableJ {P:Program}{l0:Nat×Nat}{st:PS}{Q:Exit->PS->Prop}{r n:Nat}{l:List Oper}(hn:l.length<=n)(tab:List Row)(ht:chkJ l tab=true)
  (D:Type) (J:List Bool->D->PS) (inv:List Bool->D->Prop) (d0:D) (bF bT:List Bool) (hF:bF=List.replicate l.length false) (hT:bT=List.replicate l.length true) (hi0:inv bF d0) (hw:Weak l0 st (J bF d0)) (fin:∀d,inv bT d->Q .normal (J bT d))
  (step:∀(get:Nat->Option Oper) (arr:Array Oper),(∀n,get n=l[n]?)->allE (fun b n=>∀d,inv b d->bindO (get n) fun o=>stepU P arr o (J b d) fun s'=>∃d',inv (b.set n true) d'/\Weak l0 s' (J (b.set n true) d')) tab) :
  pwp P ⟨l0,oneBar r n⟩ (.region r l.toArray true) st Q:=by
 subst hF hT
 unfold chkJ at ht
 rw[Bool.and_eq_true,List.all_eq_true]at ht
 obtain⟨h1,h2⟩:=ht
 have h3:∃e0,tab[0]? = some e0/\e0.b=Array.replicate l.length false:=by
  cases h:tab[0]? with
  |none=>rw[h]at h2; cases h2
  |some e=>
   rw[h]at h2
   simp only[Option.any_some,Bool.and_eq_true,decide_eq_true_eq]at h2
   exact⟨e,rfl,h2.1⟩
 obtain⟨e0,g1,g2⟩:=h3
 refine p_tableU hn tab ?_ D (fun k d=>J ((tab[k]?.getD ⟨#[],[],0⟩).b.toList) d) (fun k d=>inv ((tab[k]?.getD ⟨#[],[],0⟩).b.toList) d) d0 h2 ?_ ?_ (allI_of fun k e he d hd=>?_)
 ·rw[List.all_eq_true]
  intro e he
  have:=h1 e he
  rw[Bool.and_eq_true]at this
  exact this.1
 ·simp only[g1,Option.getD_some,g2,Array.toList_replicate]; exact hi0
 ·simp only[g1,Option.getD_some,g2,Array.toList_replicate]; exact hw
 ·rw[Nat.zero_add]at hd ⊢
  simp only[he,Option.getD_some]at hd ⊢
  have hm:=List.mem_of_getElem? he
  have hk:=h1 e hm
  simp only[Bool.and_eq_true,Bool.or_eq_true,List.all_eq_true,List.any_eq_true,decide_eq_true_eq]at hk
  obtain⟨_,k1,k2⟩:=hk
  refine⟨fun h=>?_,?_⟩
  ·have hb:e.b=Array.replicate l.length true:=by
    rcases k1 with k1|k1
    ·rw[h]at k1; cases k1
    ·exact k1
   rw[hb,Array.toList_replicate]at hd ⊢
   exact fin d hd
  ·refine allL_map (fun n hn h=>?_) (allE_mem (step (fun n=>l[n]?) l.toArray (fun _=>rfl)) e hm)
   refine bindO_mono (fun o h=>?_) (h d hd)
   have hs:∀s',(∃d',inv (e.b.toList.set n true) d'/\Weak l0 s' (J (e.b.toList.set n true) d'))->∃k' d',((tab[k']?).any fun (e':Row)=>decide (e'.m<e.m)&&decide (e'.b=e.b.setIfInBounds n true))=true/\inv ((tab[k']?.getD (⟨#[],[],0⟩:Row)).b.toList) d'/\Weak l0 s' (J ((tab[k']?.getD (⟨#[],[],0⟩:Row)).b.toList) d'):=fun s' ⟨d',i1,i2⟩=>by
    obtain⟨e',he',hm',hb'⟩:=k2 n hn
    obtain⟨k',hk'⟩:=List.mem_iff_getElem?.1 he'
    refine⟨k',d',?_,?_,?_⟩
    ·rw[hk']
     simp only[Option.any_some,Bool.and_eq_true,decide_eq_true_eq]
     exact⟨hm',hb'⟩
    ·rw[hk',Option.getD_some,hb',Array.toList_setIfInBounds]; exact i1
    ·rw[hk',Option.getD_some,hb',Array.toList_setIfInBounds]; exact i2
   exact stepU_mono' hs h
attribute [go_sem] cd cs andn cnt
end Go.Pw

end
section
open Go Go.Proofs Go.Pw Go.RowKit
namespace Go.Proofs.YtcgmpcbkndpmbaaGreatDoor
set_option maxRecDepth 4000
set_option linter.unusedVariables false
set_option linter.unusedSimpArgs false
attribute [local go_sem] Nat.le_refl Tk.cells Tryz.results29 str_eq str_one
def fin (s:ByteArray)(A:An):An:=if A.code≠0 then A else if nE s A.at_≠0 then .bad (nE s A.at_) (nP s A.at_) else A
structure VP (s:ByteArray) (B:An) (x:V×Bool×RS):Prop where
 b:x.2.1=decide (B.code=0)
 ok:B.code=0->x.1=B.v/\x.2.2.tk=nT s B.at_/\x.2.2.i=nQ s B.at_
 no:B.code≠0->x.2.2.place=B.place/\x.2.2.code=B.code
 sz:szV x.1<=200000
abbrev vpR (x:V×Bool×RS):PV:= .tup [.agg (cellsV x.1),vB x.2.1]
def VOk (g:FuncId)(s:ByteArray)(D:Int)(m:Int)(r:RS)(B:An):Prop:=RdOk g [vI m] s D r (VP s B) vpR (fun x=>x.2.2)
theorem vpR_lt (x:V×Bool×RS):(vpR x).lt 0 0=true:=rfl
theorem vp_next {s:ByteArray}{v:V}{r:RS}(hz:szV v<=200000):VP s (fin s (.good v r.i)) (v,nxtB s r,nxtR s r):=by
 have hg:(An.good v r.i).code=0:=rfl
 have hat:(An.good v r.i).at_=r.i:=rfl
 unfold fin nxtB nxtR
 rw[if_neg (by rw[hg]; decide),hat]
 by_cases h:nE s r.i=0
 ·rw[if_neg (by rw[h]; decide),decide_eq_true h,if_pos h]
  exact⟨(decide_eq_true hg).symm,fun _=>⟨rfl,rfl,rfl⟩,fun h'=>absurd hg h',hz⟩
 ·rw[if_pos h,decide_eq_false h,if_neg h]
  exact⟨(decide_eq_false h).symm,fun h'=>absurd h' h,fun _=>⟨rfl,rfl⟩,hz⟩
theorem vp_bad {s:ByteArray}{e:Int}{p:Nat}{r:RS}{v:V}(he:e≠0)(h1:r.place=p)(h2:r.code=e)(hz:szV v<=200000):VP s (fin s (.bad e p)) (v,false,r):=by
 unfold fin
 rw[if_pos (show(An.bad e p).code≠0 from he)]
 exact⟨(decide_eq_false he).symm,fun h=>absurd h he,fun _=>⟨h1,h2⟩,hz⟩
theorem vZero_sz:szV vZero<=200000:=by rw[szV_eq]; simp[vZero,V.s,V.keys,V.items,szT,szVs_nil]
theorem leaf_sz (k:Int)(b:Bool)(n:Int)(t:ByteArray)(h:t.size<=100000):szV (.mk k b n t [] [])<=200000:=by
 rw[szV_eq]
 simp only[V.s_mk,V.keys_mk,V.items_mk,szT,szVs_nil]
 omega
def tab_v14:List Row:=[⟨#[false,false,false,false,false],[0,1],5⟩,⟨#[true,false,false,false,false],[1],4⟩,⟨#[false,true,false,false,false],[0,2],4⟩,⟨#[true,true,false,false,false],[2],3⟩,⟨#[false,true,true,false,false],[0],3⟩,⟨#[true,true,true,false,false],[3],2⟩,⟨#[true,true,true,true,false],[4],1⟩,⟨#[true,true,true,true,true],[],0⟩]
def v14_J (s:ByteArray)(D:Int)(r:RS)(v:V):List Bool->Unit->PS
 | [b0,b1,b2,b3,b4],d=>⟨(cd b0 (78,.agg (cellsV v)) (cd b1 (79,.ptr 0 0) (cd b2 (80,vB (nxtB s r)) (cd b4 (5,vB (nxtB s r)) [(0,.ptr 0 0),(4,.ptr 2 0),(6,.ptr 4 0)])))),[(0,.box 69 (.ptr 1 0::rdC D (cs b2 (nxtR s r) r))),(1,.box 94 [vS s,vI (cs b2 (nxtR s r) r).i]),(4,.box 33 (cellsV v)),(2,.box 33 (cs b3 (cellsV v) [vI 0,vB false,vI 0,vS ByteArray.empty,vNil,vNil]))],[],5,0⟩
 |_,_=>⟨[],[],[],0,0⟩
def tab_v13:List Row:=[⟨#[false,false,false,false,false,false,false,false,false,false],[0,1,2],10⟩,⟨#[true,false,false,false,false,false,false,false,false,false],[1,2],9⟩,⟨#[false,true,false,false,false,false,false,false,false,false],[0,2],9⟩,⟨#[false,false,true,false,false,false,false,false,false,false],[0,1,3],9⟩,⟨#[true,true,false,false,false,false,false,false,false,false],[2],8⟩,⟨#[true,false,true,false,false,false,false,false,false,false],[1,3],8⟩,⟨#[false,true,true,false,false,false,false,false,false,false],[0,3],8⟩,⟨#[false,false,true,true,false,false,false,false,false,false],[0,1,4],8⟩,⟨#[true,true,true,false,false,false,false,false,false,false],[3],7⟩,⟨#[true,false,true,true,false,false,false,false,false,false],[1,4],7⟩,⟨#[false,true,true,true,false,false,false,false,false,false],[0,4],7⟩,⟨#[false,false,true,true,true,false,false,false,false,false],[0,1,5],7⟩,⟨#[true,true,true,true,false,false,false,false,false,false],[4],6⟩,⟨#[true,false,true,true,true,false,false,false,false,false],[1,5],6⟩,⟨#[false,true,true,true,true,false,false,false,false,false],[0,5],6⟩,⟨#[false,false,true,true,true,true,false,false,false,false],[0,1,6],6⟩,⟨#[true,true,true,true,true,false,false,false,false,false],[5],5⟩,⟨#[true,false,true,true,true,true,false,false,false,false],[1,6],5⟩,⟨#[false,true,true,true,true,true,false,false,false,false],[0,6],5⟩,⟨#[false,false,true,true,true,true,true,false,false,false],[0,1],5⟩,⟨#[true,true,true,true,true,true,false,false,false,false],[6],4⟩,⟨#[true,false,true,true,true,true,true,false,false,false],[1],4⟩,⟨#[false,true,true,true,true,true,true,false,false,false],[0,7],4⟩,⟨#[true,true,true,true,true,true,true,false,false,false],[7],3⟩,⟨#[false,true,true,true,true,true,true,true,false,false],[0],3⟩,⟨#[true,true,true,true,true,true,true,true,false,false],[8],2⟩,⟨#[true,true,true,true,true,true,true,true,true,false],[9],1⟩,⟨#[true,true,true,true,true,true,true,true,true,true],[],0⟩]
def v13_J (s:ByteArray)(D:Int)(r:RS):List Bool->Unit->PS
 | [b0,b1,b2,b3,b4,b5,b6,b7,b8,b9],d=>⟨(cd b0 (70,.agg [vI 0,vB false,vI 0,vS ByteArray.empty,vNil,vNil]) (cd b1 (71,.ptr 0 0) (cd b2 (72,.ptr 0 0) (cd b3 (73,.ptr 0 0) (cd b4 (74,.ptr 0 1) (cd b5 (75,.ptr 0 4) (cd b6 (76,vI r.tk.at_) (cd b7 (77,vB false) (cd b9 (5,vB false) [(0,.ptr 0 0),(4,.ptr 2 0),(6,.ptr 4 0)]))))))))),[(0,.box 69 (.ptr 1 0::rdC D (cs b7 ⟨r.tk,r.i,r.tk.at_,1⟩ r))),(1,.box 94 [vS s,vI r.i]),(4,.box 33 [vI 0,vB false,vI 0,vS ByteArray.empty,vNil,vNil]),(2,.box 33 [vI 0,vB false,vI 0,vS ByteArray.empty,vNil,vNil])],[],5,0⟩
 |_,_=>⟨[],[],[],0,0⟩
set_option maxHeartbeats 32000000 in
theorem rd_value (s:ByteArray)(hs:s.size<=20000)(D m:Int)(p:Nat)(hp:p<=s.size)(h1:nE s p=0)(i:Nat)(t:Tk)(e1:t=nT s p)(e2:i=nQ s p)(place code:Int)(g:An)
  (hin:t.sign 91=true∨t.sign 123=true->VOk 49 s D m ⟨t,i,place,code⟩ (fin s g)):VOk 29 s D m ⟨t,i,place,code⟩ (fin s (rVh s p g)):=by
 have ci1:=rd_is s D ⟨t,i,place,code⟩ 91
 have ci2:=rd_is s D ⟨t,i,place,code⟩ 123
 have tk:=tk_ok s p hp
 have hi:i<=s.size:=by rw[e2]; exact tk.le
 have cn:=rd_next s D ⟨t,i,place,code⟩ hi (by omega)
 have cf:=rd_fail s D ⟨t,i,place,code⟩ t.at_ 1
 have hts:t.text.size<=100000:=by have:=tk.size; rw[e1]; omega
 have hv:∀v,rLeaf t=some v->rVh s p g = .good v i:=fun v h=>by
  unfold rVh
  rw[if_neg (by rw[h1]; decide),<-e1,h,e2]
 have hn:rLeaf t=none->rVh s p g=(if t.sign 91=false/\t.sign 123=false then .bad 1 t.at_ else g):=fun h=>by
  unfold rVh
  rw[if_neg (by rw[h1]; decide),<-e1,h]
 have hs1:∀c,t.sign c=true->rLeaf t=none:=fun c h=>by
  have:=sign_kind h
  unfold rLeaf
  rw[this]
  rfl
 refine OkI.of_pwpF (by kernel_rfl) Tryz.func29 rfl (by kernel_rfl) (by kernel_rfl) (bar:=bar2 13 100 (bar2 14 100 noBar)) ?_
 refine p_seq_k (fun K hK=>?_)
 simp -implicitDefEqProofs (disch:=omega) only[go_sem,simprocAttr,dropH,inL,cellsV]
 refine hK _ ?_
 refine p_seq_k (fun K hK=>?_)
 simp -implicitDefEqProofs (disch:=omega) only[go_sem,simprocAttr,dropH,inL,cellsV]
 refine hK _ ?_
 refine p_join (D:={ v:V // rVh s p g = .good v i/\szV v<=200000 }) (fun v=>v14_J s D ⟨t,i,place,code⟩ v.1 [false,false,false,false,false] ()) ?_ ?_
 ·rintro⟨v,hv0,hz0⟩ st hw
  rw[hv0]
  simp only at hw
  simp -implicitDefEqProofs (disch:=omega) only[go_sem,simprocAttr,dropH,inL,cellsV]
  refine p_tab2 (by decide) ?_
  refine p_tableJ (by decide) tab_v14 (by kernel_rfl) (Unit) (v14_J s D ⟨t,i,place,code⟩ v) (fun _ _=>True) () [false,false,false,false,false] [true,true,true,true,true] rfl rfl trivial ?_ ?_ ?_
  ·exact hw
  ·rintro⟨⟩ hd
   simp only[v14_J]at hd ⊢
   simp -implicitDefEqProofs (disch:=omega) only[go_sem,simprocAttr,dropH,inL,cellsV]
   refine⟨⟨[],rdH s D (nxtR s ⟨t,i,place,code⟩),[],2,0⟩,⟨(v,nxtB s ⟨t,i,place,code⟩,nxtR s ⟨t,i,place,code⟩),vp_next (r:=⟨t,i,place,code⟩) hz0,rfl,rfl,rfl,rfl⟩,?_⟩
   constructor<;>simp only[go_sem,simprocAttr,decide_eq_true_eq,Int.natCast_add,Int.natCast_one]<;>try ((repeat' apply And.intro)<;>first|rfl|omega|(congr 3; omega)|(congr 2; omega))
  intro get arr hget
  obtain⟨g0,g1,g2,g3,g4⟩:get 0=_/\get 1=_/\get 2=_/\get 3=_/\get 4=_:=⟨hget 0,hget 1,hget 2,hget 3,hget 4⟩
  simp only[List.getElem?_cons_zero,List.getElem?_cons_succ]at g0 g1 g2 g3 g4
  clear hget
  simp only[tab_v14,allE,allL,and_true,List.set_cons_zero,List.set_cons_succ]
  repeat' apply And.intro
  all_goals
   rintro⟨⟩ hd
   simp only[g0,g1,g2,g3,g4,b_some,v14_J]at hd ⊢
   clear g0 g1 g2 g3 g4
   refine .inl ?_
   simp -implicitDefEqProofs (disch:=omega) only[go_sem,simprocAttr,dropH,inL,cellsV]
   try
    refine CallOk.ofI (cn.at (st:=⟨[],_,_,_,_⟩) 0 1 (by decide) (by simp) (by simp) rfl (fun _ _=>rfl) (by rfl) (by rfl)) rfl rfl rfl rfl ?_
    rintro r1 st' ⟨_,_,rfl,nt9,q9,rfl⟩
    simp only at q9
    simp -implicitDefEqProofs (disch:=omega) only[go_sem,simprocAttr,dropH,inL,cellsV]
   first|refine⟨(),trivial,?_⟩|refine⟨(),?_⟩|skip
   constructor<;>simp only[go_sem,simprocAttr,decide_eq_true_eq,cellsV,vZero]<;>try ((repeat' apply And.intro)<;>first|rfl|omega|(congr 3; omega)|(congr 2; omega))
 intro K hK
 simp -implicitDefEqProofs (disch:=omega) only[go_sem,simprocAttr,dropH,inL,cellsV]
 refine CallOk.ofI (ci1.at (st:=⟨[],_,_,_,_⟩) 0 1 (by decide) (by simp) (by simp) rfl (fun _ _=>rfl) (by rfl) (by rfl)) rfl rfl rfl rfl ?_
 rintro r1 st' ⟨_,_,rfl,nt1,q1,rfl⟩
 simp only at q1 ⊢
 cases h91:t.sign 91 with
 |true=>
  have c:=hin (.inl h91)
  rw[hn (hs1 _ h91),if_neg (by rw[h91]; simp)]
  simp -implicitDefEqProofs (disch:=omega) only[go_sem,simprocAttr,dropH,inL,cellsV]
  refine CallOk.ofI (RdOk.at c (st:=⟨[],_,_,_,_⟩) 0 1 (by decide) (by simp) (by simp) rfl (fun x _=>vpR_lt x) (by rfl) (by rfl)) rfl rfl rfl rfl ?_
  rintro r1 st' ⟨x,hx,rfl,nt2,q2,rfl⟩
  simp only at q2 ⊢
  simp -implicitDefEqProofs (disch:=omega) only[go_sem,simprocAttr,dropH,inL,cellsV]
  refine⟨⟨[],rdH s D x.2.2,[],2,0⟩,⟨x,hx,rfl,rfl,rfl,rfl⟩,?_⟩
  constructor<;>simp only[go_sem,simprocAttr,decide_eq_true_eq,Int.natCast_add,Int.natCast_one]<;>try ((repeat' apply And.intro)<;>first|rfl|omega|(congr 3; omega)|(congr 2; omega))
 |false=>
 simp -implicitDefEqProofs (disch:=omega) only[go_sem,simprocAttr,dropH,inL,cellsV]
 refine CallOk.ofI (ci2.at (st:=⟨[],_,_,_,_⟩) 0 1 (by decide) (by simp) (by simp) rfl (fun _ _=>rfl) (by rfl) (by rfl)) rfl rfl rfl rfl ?_
 rintro r1 st' ⟨_,_,rfl,nt2,q2,rfl⟩
 simp only at q2 ⊢
 cases h123:t.sign 123 with
 |true=>
  have c:=hin (.inr h123)
  rw[hn (hs1 _ h123),if_neg (by rw[h123]; simp)]
  simp -implicitDefEqProofs (disch:=omega) only[go_sem,simprocAttr,dropH,inL,cellsV]
  refine CallOk.ofI (RdOk.at c (st:=⟨[],_,_,_,_⟩) 0 1 (by decide) (by simp) (by simp) rfl (fun x _=>vpR_lt x) (by rfl) (by rfl)) rfl rfl rfl rfl ?_
  rintro r1 st' ⟨x,hx,rfl,nt3,q3,rfl⟩
  simp only at q3 ⊢
  simp -implicitDefEqProofs (disch:=omega) only[go_sem,simprocAttr,dropH,inL,cellsV]
  refine⟨⟨[],rdH s D x.2.2,[],2,0⟩,⟨x,hx,rfl,rfl,rfl,rfl⟩,?_⟩
  constructor<;>simp only[go_sem,simprocAttr,decide_eq_true_eq,Int.natCast_add,Int.natCast_one]<;>try ((repeat' apply And.intro)<;>first|rfl|omega|(congr 3; omega)|(congr 2; omega))
 |false=>
 by_cases k2:t.kind=2
 ·have hv0:=hv (.mk 3 false 0 t.text [] []) (by unfold rLeaf; rw[if_pos k2])
  simp -implicitDefEqProofs (disch:=omega) only[go_sem,simprocAttr,dropH,inL,cellsV,k2]
  with_reducible refine CallOk.of (vtext_ok t.text) rfl ?_
  simp -implicitDefEqProofs (disch:=omega) only[go_sem,simprocAttr,dropH,inL,cellsV,encV_nil,encT_nil]
  refine hK ⟨_,hv0,leaf_sz _ _ _ _ hts⟩ _ ?_
  simp only[v14_J]
  constructor<;>simp only[go_sem,simprocAttr,decide_eq_true_eq,cellsV,encV_nil,encT_nil]<;>try ((repeat' apply And.intro)<;>first|rfl|omega|(congr 3; omega)|(congr 2; omega))
 by_cases k3:t.kind=3
 ·have hv0:=hv (.mk 2 false t.int ByteArray.empty [] []) (by unfold rLeaf; rw[if_neg k2,if_pos k3])
  simp -implicitDefEqProofs (disch:=omega) only[go_sem,simprocAttr,dropH,inL,cellsV,k3]
  with_reducible refine CallOk.of (num_ok t.int) rfl ?_
  simp -implicitDefEqProofs (disch:=omega) only[go_sem,simprocAttr,dropH,inL,cellsV,encV_nil,encT_nil]
  refine hK ⟨_,hv0,leaf_sz _ _ _ _ (by decide)⟩ _ ?_
  simp only[v14_J]
  constructor<;>simp only[go_sem,simprocAttr,decide_eq_true_eq,cellsV,encV_nil,encT_nil]<;>try ((repeat' apply And.intro)<;>first|rfl|omega|(congr 3; omega)|(congr 2; omega))
 by_cases k4:t.kind=4
 ·have hv0:=hv (.mk 1 true 0 ByteArray.empty [] []) (by unfold rLeaf; rw[if_neg k2,if_neg k3,if_pos (by simp[k4])]; simp[k4])
  simp -implicitDefEqProofs (disch:=omega) only[go_sem,simprocAttr,dropH,inL,cellsV,k4]
  with_reducible refine CallOk.of (truth_ok true) rfl ?_
  simp -implicitDefEqProofs (disch:=omega) only[go_sem,simprocAttr,dropH,inL,cellsV,encV_nil,encT_nil]
  refine hK ⟨_,hv0,leaf_sz _ _ _ _ (by decide)⟩ _ ?_
  simp only[v14_J]
  constructor<;>simp only[go_sem,simprocAttr,decide_eq_true_eq,cellsV,encV_nil,encT_nil]<;>try ((repeat' apply And.intro)<;>first|rfl|omega|(congr 3; omega)|(congr 2; omega))
 by_cases k5:t.kind=5
 ·have hv0:=hv (.mk 1 false 0 ByteArray.empty [] []) (by unfold rLeaf; rw[if_neg k2,if_neg k3,if_pos (by simp[k5])]; simp[k5])
  simp -implicitDefEqProofs (disch:=omega) only[go_sem,simprocAttr,dropH,inL,cellsV,k5]
  with_reducible refine CallOk.of (truth_ok false) rfl ?_
  simp -implicitDefEqProofs (disch:=omega) only[go_sem,simprocAttr,dropH,inL,cellsV,encV_nil,encT_nil]
  refine hK ⟨_,hv0,leaf_sz _ _ _ _ (by decide)⟩ _ ?_
  simp only[v14_J]
  constructor<;>simp only[go_sem,simprocAttr,decide_eq_true_eq,cellsV,encV_nil,encT_nil]<;>try ((repeat' apply And.intro)<;>first|rfl|omega|(congr 3; omega)|(congr 2; omega))
 by_cases k6:t.kind=6
 ·have hv0:=hv vZero (by unfold rLeaf; rw[if_neg k2,if_neg k3,if_neg (by omega),if_pos k6])
  simp -implicitDefEqProofs (disch:=omega) only[go_sem,simprocAttr,dropH,inL,cellsV,k6]
  refine hK ⟨_,hv0,vZero_sz⟩ _ ?_
  simp only[v14_J]
  constructor<;>simp only[go_sem,simprocAttr,decide_eq_true_eq,cellsV,vZero,encV_nil,encT_nil,V.kind_mk,V.b_mk,V.n_mk,V.s_mk,V.items_mk,V.keys_mk]<;>try ((repeat' apply And.intro)<;>first|rfl|omega|(congr 3; omega)|(congr 2; omega))
 rw[hn (by unfold rLeaf; rw[if_neg k2,if_neg k3,if_neg (by omega),if_neg k6]),if_pos ⟨h91,h123⟩]
 simp -implicitDefEqProofs (disch:=omega) only[go_sem,simprocAttr,dropH,inL,cellsV,decide_eq_false k2,decide_eq_false k3,decide_eq_false k4,decide_eq_false k5,decide_eq_false k6]
 refine p_tab2 (by decide) ?_
 refine p_tableJ (by decide) tab_v13 (by kernel_rfl) (Unit) (v13_J s D ⟨t,i,place,code⟩) (fun _ _=>True) () [false,false,false,false,false,false,false,false,false,false] [true,true,true,true,true,true,true,true,true,true] rfl rfl trivial ?_ ?_ ?_
 ·simp only[v13_J]
  constructor<;>simp only[go_sem,simprocAttr,decide_eq_true_eq,cellsV,vZero]<;>try ((repeat' apply And.intro)<;>first|rfl|omega|(congr 3; omega)|(congr 2; omega))
 ·rintro⟨⟩ hd
  simp only[v13_J]at hd ⊢
  simp -implicitDefEqProofs (disch:=omega) only[go_sem,simprocAttr,dropH,inL,cellsV]
  refine⟨⟨[],rdH s D ⟨t,i,t.at_,1⟩,[],2,0⟩,⟨(vZero,false,⟨t,i,t.at_,1⟩),?_,rfl,rfl,rfl,rfl⟩,?_⟩
  ·exact vp_bad (by decide) rfl rfl vZero_sz
  constructor<;>simp only[go_sem,simprocAttr,decide_eq_true_eq,vZero,cellsV]<;>try ((repeat' apply And.intro)<;>first|rfl|omega|(congr 3; omega)|(congr 2; omega))
 intro get arr hget
 obtain⟨g0,g1,g2,g3,g4,g5,g6,g7,g8,g9⟩:get 0=_/\get 1=_/\get 2=_/\get 3=_/\get 4=_/\get 5=_/\get 6=_/\get 7=_/\get 8=_/\get 9=_:=⟨hget 0,hget 1,hget 2,hget 3,hget 4,hget 5,hget 6,hget 7,hget 8,hget 9⟩
 simp only[List.getElem?_cons_zero,List.getElem?_cons_succ]at g0 g1 g2 g3 g4 g5 g6 g7 g8 g9
 clear hget
 simp only[tab_v13,allE,allL,and_true,List.set_cons_zero,List.set_cons_succ]
 repeat' apply And.intro
 all_goals
  rintro⟨⟩ hd
  simp only[g0,g1,g2,g3,g4,g5,g6,g7,g8,g9,b_some,v13_J]at hd ⊢
  clear g0 g1 g2 g3 g4 g5 g6 g7 g8 g9
  refine .inl ?_
  simp -implicitDefEqProofs (disch:=omega) only[go_sem,simprocAttr,dropH,inL,cellsV]
  try
   refine CallOk.ofI (cf.at (st:=⟨[],_,_,_,_⟩) 0 1 (by decide) (by simp) (by simp) rfl (fun _ _=>rfl) (by rfl) (by rfl)) rfl rfl rfl rfl ?_
   rintro r1 st' ⟨_,_,rfl,nt9,q9,rfl⟩
   simp only at q9
   simp -implicitDefEqProofs (disch:=omega) only[go_sem,simprocAttr,dropH,inL,cellsV]
  first|refine⟨(),trivial,?_⟩|refine⟨(),?_⟩|skip
  constructor<;>simp only[go_sem,simprocAttr,decide_eq_true_eq,cellsV,vZero]<;>try ((repeat' apply And.intro)<;>first|rfl|omega|(congr 3; omega)|(congr 2; omega))
end Go.Proofs.YtcgmpcbkndpmbaaGreatDoor

end
section
open Go Go.Proofs Go.Pw Go.RowKit
namespace Go.Proofs.YtcgmpcbkndpmbaaGreatDoor
set_option maxRecDepth 4000
set_option linter.unusedVariables false
set_option linter.unusedSimpArgs false
attribute [local go_sem] Nat.le_refl Tk.cells Tryz.results73 str_eq str_one
theorem one_V':∀u∈(Value.agg #[.int .i64 0,.bool false,.int .i64 0,.string ⟨#[]⟩,.slice none 0 0,.slice none 0 0]).cells.toList,u.oneCell'=true:=by
 intro u hu; simp[Value.cells]at hu; rcases hu with rfl|rfl|rfl|rfl|rfl|rfl<;>rfl
theorem dropH_nil (i:List Nat):dropH i []=[]:=rfl
theorem drop01 {a:Nat}{o:PObj}{r:List (Nat×PObj)}(h:2<=a):dropH [0,1] ((a,o)::r)=(a,o)::dropH [0,1] r:=by
 have h0:(a==0)=false:=by simp; omega
 have h1:(a==1)=false:=by simp; omega
 simp[dropH,inL,h0,h1]
theorem drop01_0 {o:PObj}{r:List (Nat×PObj)}:dropH [0,1] ((0,o)::r)=dropH [0,1] r:=by simp[dropH,inL]
theorem drop01_1 {o:PObj}{r:List (Nat×PObj)}:dropH [0,1] ((1,o)::r)=dropH [0,1] r:=by simp[dropH,inL]
def TokLow (T:List (Nat×Tok))(nt:Nat):Prop:=∀e∈T,lkp T e.1=some e.2/\e.1<nt
theorem TokLow.upx {T:List (Nat×Tok)}{nt k:Nat}{t:Tok}(h:TokLow T nt)(hk:nt<=k):∀e∈T,lkp (upd T k t) e.1=some e.2/\e.1<nt:=fun e he=>by
 obtain⟨h1,h2⟩:=h e he
 rw[lkp_upd,if_neg (by omega)]
 exact⟨h1,h2⟩
theorem TokLow.up {T:List (Nat×Tok)}{nt n:Nat}(h:TokLow T nt)(hk:nt<=n):∀e∈T,lkp T e.1=some e.2/\e.1<n:=fun e he=>⟨(h e he).1,Nat.lt_of_lt_of_le (h e he).2 hk⟩
theorem TokLow.upy {T:List (Nat×Tok)}{nt k n:Nat}{t:Tok}(h:TokLow T nt)(hk:nt<=k)(hn:nt<=n):∀e∈T,lkp (upd T k t) e.1=some e.2/\e.1<n:=fun e he=>by
 obtain⟨h1,h2⟩:=h.upx (t:=t) hk e he
 exact⟨h1,Nat.lt_of_lt_of_le h2 hn⟩
theorem flat_app1 (l:List V)(r:List PV):List.take (l.length*6) (flatV l++r)=flatV l:=by rw[List.take_append_of_le_length (by rw[flatV_len]; omega),List.take_of_length_le (by rw[flatV_len]; omega)]
theorem flat_drop1 (l:List V)(r:List PV):List.drop (l.length*6) (flatV l++r)=r:=by rw[List.drop_append,flatV_len,Nat.sub_self,List.drop_zero,List.drop_eq_nil_of_le (by rw[flatV_len]; omega),List.nil_append]
theorem flatV_app' (l m:List V):flatV (l++m)=flatV l++flatV m:=by unfold flatV; simp
theorem flat_one (v:V):flatV [v]=cellsV v:=by simp[flatV]
theorem flat_set1 (l:List V)(v w:V)(r:List PV):List.take (l.length*6) (flatV (l++[w])++r)++cellsV v++List.drop (l.length*6+6) (flatV (l++[w])++r)=flatV (l++[v])++r:=by
 have h1:flatV (l++[w])++r=flatV l++(cellsV w++r):=by rw[flatV_app',flat_one,List.append_assoc]
 rw[h1,flat_app1,<-List.drop_drop,flat_drop1,flatV_app',flat_one]
 simp
theorem flat_drop6 (v:V)(r:List PV):List.drop 6 (flatV [v]++r)=r:=by rw[flat_one]; rfl
abbrev z6:List PV:=[vI 0,vB false,vI 0,vS ByteArray.empty,.sl [],.sl []]
theorem z6_cells:z6=cellsV vZero:=by simp[vZero,cellsV,V.kind,V.b,V.n,V.s,V.items,V.keys,encV_nil,encT_nil]
def tab_itN:List Row:=[⟨#[false,false,false,false,false,false,false,false,false,false,false],[0,3,5],11⟩,⟨#[true,false,false,false,false,false,false,false,false,false,false],[1,3,5],10⟩,⟨#[false,false,false,true,false,false,false,false,false,false,false],[0,5],10⟩,⟨#[false,false,false,false,false,true,false,false,false,false,false],[0,3],10⟩,⟨#[true,true,false,false,false,false,false,false,false,false,false],[2,3,5],9⟩,⟨#[true,false,false,true,false,false,false,false,false,false,false],[1,5],9⟩,⟨#[true,false,false,false,false,true,false,false,false,false,false],[1,3],9⟩,⟨#[false,false,false,true,false,true,false,false,false,false,false],[0],9⟩,⟨#[true,true,true,false,false,false,false,false,false,false,false],[3,4,5],8⟩,⟨#[true,true,false,true,false,false,false,false,false,false,false],[2,5],8⟩,⟨#[true,true,false,false,false,true,false,false,false,false,false],[2,3],8⟩,⟨#[true,false,false,true,false,true,false,false,false,false,false],[1],8⟩,⟨#[true,true,true,true,false,false,false,false,false,false,false],[4,5],7⟩,⟨#[true,true,true,false,true,false,false,false,false,false,false],[3,5],7⟩,⟨#[true,true,true,false,false,true,false,false,false,false,false],[3,4],7⟩,⟨#[true,true,false,true,false,true,false,false,false,false,false],[2],7⟩,⟨#[true,true,true,true,true,false,false,false,false,false,false],[5],6⟩,⟨#[true,true,true,true,false,true,false,false,false,false,false],[4],6⟩,⟨#[true,true,true,false,true,true,false,false,false,false,false],[3],6⟩,⟨#[true,true,true,true,true,true,false,false,false,false,false],[6],5⟩,⟨#[true,true,true,true,true,true,true,false,false,false,false],[7,9],4⟩,⟨#[true,true,true,true,true,true,true,true,false,false,false],[8,9],3⟩,⟨#[true,true,true,true,true,true,true,false,false,true,false],[7,10],3⟩,⟨#[true,true,true,true,true,true,true,true,true,false,false],[9],2⟩,⟨#[true,true,true,true,true,true,true,true,false,true,false],[8,10],2⟩,⟨#[true,true,true,true,true,true,true,false,false,true,true],[7],2⟩,⟨#[true,true,true,true,true,true,true,true,true,true,false],[10],1⟩,⟨#[true,true,true,true,true,true,true,true,false,true,true],[8],1⟩,⟨#[true,true,true,true,true,true,true,true,true,true,true],[],0⟩]
def itN_J (s:ByteArray)(D:Int)(r:RS)(v:V)(b:Bool)(kd:Int)(nt:Nat)(rk:PV)(T:List (Nat×Tok)):List Bool->Nat×List PV->PS
 | [b0,b1,b2,b3,b4,b5,b6,b7,b8,b9,b10],d=>⟨(cd b0 (17,.ptr 2 4) (cd b1 (18,.ptr 2 4) (cd b2 (19,vNil) (cd b3 (20,.agg (cellsV v)) (cd b4 (21,vI 0) (cd b5 (22,.sl [z6]) (cd b6 (23,.ms 22 0 (0+1) d.1) (cd b7 (24,.ptr 22 (0*6)) (cd b9 (25,.ptr 2 4) [(10,vB b),(9,.ptr 13 0),(3,.ptr 2 4),(0,.ptr 0 0)]))))))))),((0,.box 69 (.ptr 1 0::rdC D r))::(1,.box 94 [vS s,vI r.i])::(2,.box 33 [vI kd,vB false,vI 0,vS ByteArray.empty,cs b10 (.ms 22 0 (0+1) d.1) (vNil),vNil])::(3,.box 26 [rk])::(13,.box 33 (cellsV v))::cs b6 [(22,.box 33 (flatV ([]++[cs b8 v vZero])++d.2))] []),T,16+cnt [b0,b1,b2,b3,b4,b5,b6,b7,b8,b9,b10],nt⟩
 |_,_=>⟨[],[],[],0,0⟩
def itN_P (s:ByteArray)(D:Int)(r:RS)(v:V)(b:Bool)(kd:Int)(nt:Nat)(rk:PV)(T:List (Nat×Tok)):List Bool->Nat×List PV->Prop
 | [b0,b1,b2,b3,b4,b5,b6,b7,b8,b9,b10],d=>cs b6 (0+1<=d.1/\d.1<=maxLen/\d.2.length=(d.1-(0+1))*6/\∀x y,PV.ltL x y d.2=true) True
 |_,_=>False
set_option maxHeartbeats 64000000 in
theorem rd_item_nil (s:ByteArray)(D m kd:Int)(r0:RS)(B:An)(hv:VOk 29 s D m r0 B)(nt:Nat)(rk:PV)(T:List (Nat×Tok))(hrk:rk.lt 0 nt=true)(hT:TokLow T nt) :
  OkI Tryz.prog 73 [.ptr 0 0,vI m,.ptr 3 0,.ptr 2 4] ⟨[],[(0,.box 69 (.ptr 1 0::rdC D r0)),(1,.box 94 [vS s,vI r0.i]),(2,.box 33 [vI kd,vB false,vI 0,vS ByteArray.empty,vNil,vNil]),(3,.box 26 [rk])],T,4,nt⟩
   (fun R st'=>∃(x:V×Bool×RS) (cap':Nat) (rest':List PV),VP s B x/\R=vB x.2.1/\0+1<=cap'/\cap'<=maxLen/\rest'.length=(cap'-(0+1))*6/\(∀x y,PV.ltL x y rest'=true) /\
     st'=⟨[],[(0,.box 69 (.ptr 1 0::rdC D x.2.2)),(1,.box 94 [vS s,vI x.2.2.i]),(2,.box 33 [vI kd,vB false,vI 0,vS ByteArray.empty,.ms 22 0 (0+1) cap',vNil]),(3,.box 26 [rk]),(22,.box 33 (flatV ([]++[x.1])++rest'))],T,23,nt⟩):=by
 refine OkI.of_pwpB (by kernel_rfl) Tryz.func73 rfl (by kernel_rfl) (by kernel_rfl) (bar:=bar2 2 100 noBar) ?_
 have hmax:(1000001:Nat)<=maxLen:=by unfold maxLen; decide
 refine p_seq_k (fun K hK=>?_)
 simp -implicitDefEqProofs (disch:=omega) only[go_sem,simprocAttr,dropH,inL,cellsV]
 refine hK _ ?_
 clear hK
 refine p_seq_k (fun K hK=>?_)
 simp -implicitDefEqProofs (disch:=omega) only[go_sem,simprocAttr,dropH,inL,cellsV]
 refine CallOk.ofI (RdOk.at hv (st:=⟨[],_,_,_,_⟩) 0 1 (by decide) (by simp) (by simp) rfl (fun x _=>vpR_lt x) (by rfl) (by rfl)) rfl rfl rfl rfl ?_
 rintro R1 st' ⟨⟨v,b,r⟩,hx,rfl,nt9,q9,rfl⟩
 simp only at q9 ⊢
 simp -implicitDefEqProofs (disch:=omega) only[go_sem,simprocAttr,dropH,inL,cellsV]
 refine hK _ ?_
 clear hK
 simp -implicitDefEqProofs (disch:=omega) only[go_sem,simprocAttr,dropH,inL,cellsV]
 have hrk':∀x y,PV.lt x (nt+y) rk=true:=fun x y=>lt_low (Nat.zero_le x) (Nat.le_add_right nt y) rk hrk
 have hrk0:∀x,PV.lt x nt rk=true:=fun x=>lt_low (Nat.zero_le x) (Nat.le_refl nt) rk hrk
 refine p_tab2 (by decide) ?_
 refine p_tableJ (by decide) tab_itN (by kernel_rfl) (Nat×List PV) (itN_J s D r v b kd nt rk T) (itN_P s D r v b kd nt rk T) (0,[]) [false,false,false,false,false,false,false,false,false,false,false] [true,true,true,true,true,true,true,true,true,true,true] rfl rfl (by simp only[itN_P,cs]) ?_ ?_ ?_
 ·simp only[itN_J]
  constructor<;>simp only[go_sem,simprocAttr,decide_eq_true_eq,cellsV,vZero,V.kind_mk,V.b_mk,V.n_mk,V.s_mk,V.items_mk,V.keys_mk,encV_nil,encT_nil,ltL_app,ltL_flatV,hrk',hrk0,flat_one,flat_drop6,flat_set1]<;>first|omega|exact hT.up (by omega)|exact hT.upy (by omega) (by omega)|((repeat' (first|exact And.intro rfl (by omega)|(refine And.intro ?_ ?_)))<;>first|rfl|omega|exact hd.2.2.2 _ _|exact ltL_low (Nat.zero_le _) (Nat.zero_le _) _ q4)
 ·rintro d hd
  simp only[itN_J,itN_P,cs]at hd ⊢
  simp -implicitDefEqProofs (disch:=omega) only[go_sem,simprocAttr,dropH,inL,cellsV]
  refine⟨⟨[],[(0,.box 69 (.ptr 1 0::rdC D r)),(1,.box 94 [vS s,vI r.i]),(2,.box 33 [vI kd,vB false,vI 0,vS ByteArray.empty,.ms 22 0 (0+1) d.1,vNil]),(3,.box 26 [rk]),(22,.box 33 (flatV ([]++[v])++d.2))],T,23,nt⟩,⟨(v,b,r),d.1,d.2,hx,rfl,hd.1,hd.2.1,hd.2.2.1,hd.2.2.2,rfl⟩,?_⟩
  constructor<;>simp only[go_sem,simprocAttr,decide_eq_true_eq,cellsV,vZero,V.kind_mk,V.b_mk,V.n_mk,V.s_mk,V.items_mk,V.keys_mk,encV_nil,encT_nil,ltL_app,ltL_flatV,hrk',hrk0,flat_one,flat_drop6,flat_set1]<;>first|omega|exact hT.up (by omega)|exact hT.upy (by omega) (by omega)|((repeat' (first|exact And.intro rfl (by omega)|(refine And.intro ?_ ?_)))<;>first|rfl|omega|exact hd.2.2.2 _ _|exact ltL_low (Nat.zero_le _) (Nat.zero_le _) _ q4)
 intro get arr hget
 obtain⟨g0,g1,g2,g3,g4,g5,g6,g7,g8,g9,g10⟩:get 0=_/\get 1=_/\get 2=_/\get 3=_/\get 4=_/\get 5=_/\get 6=_/\get 7=_/\get 8=_/\get 9=_/\get 10=_:=⟨hget 0,hget 1,hget 2,hget 3,hget 4,hget 5,hget 6,hget 7,hget 8,hget 9,hget 10⟩
 simp only[List.getElem?_cons_zero,List.getElem?_cons_succ]at g0 g1 g2 g3 g4 g5 g6 g7 g8 g9 g10
 clear hget
 simp only[tab_itN,allE,allL,and_true,List.set_cons_zero,List.set_cons_succ]
 repeat' apply And.intro
 all_goals
  rintro d hd
  simp only[g0,g1,g2,g3,g4,g5,g6,g7,g8,g9,g10,b_some,itN_J,itN_P,cs]at hd ⊢
  clear g0 g1 g2 g3 g4 g5 g6 g7 g8 g9 g10
  first
  |(refine .inr ?_
    refine sem_append_nil (P:=Tryz.prog) (sz:=6) (by_:=88) (ys:=[z6]) Tryz.underlying31 rfl rfl rfl rfl (by decide) one_V' rfl rfl rfl rfl (fun y hy=>by rw[List.mem_singleton]at hy; subst hy; rfl) (by simp) (by simp only[List.length_singleton]; omega) (by simp only[List.length_singleton]; omega) (fun cap' rest' q1 q2 q3 q4=>?_)
    simp only[List.length_singleton,List.flatten_cons,List.flatten_nil,List.append_nil,Nat.zero_add]at q1 q3 ⊢
    rw[z6_cells,<-flat_one vZero]
    refine⟨(cap',rest'),⟨q1,q2,q3,fun x y=>ltL_low (Nat.zero_le x) (Nat.zero_le y) _ q4⟩,?_⟩
    constructor<;>simp only[go_sem,simprocAttr,decide_eq_true_eq,cellsV,vZero,V.kind_mk,V.b_mk,V.n_mk,V.s_mk,V.items_mk,V.keys_mk,encV_nil,encT_nil,ltL_app,ltL_flatV,hrk',hrk0,flat_one,flat_drop6,flat_set1]<;>first|omega|exact hT.up (by omega)|exact hT.upy (by omega) (by omega)|((repeat' (first|exact And.intro rfl (by omega)|(refine And.intro ?_ ?_)))<;>first|rfl|omega|exact hd.2.2.2 _ _|exact ltL_low (Nat.zero_le _) (Nat.zero_le _) _ q4))
  |(refine .inl ?_
    simp -implicitDefEqProofs (disch:=omega) only[go_sem,simprocAttr,dropH,inL,cellsV]
    try refine And.intro (fun x hx=>by rw[List.mem_singleton]at hx; subst hx; rfl) ?_
    repeat refine And.intro (by first|rfl|decide) ?_
    try refine⟨by rw[List.length_append,flatV_len,List.length_singleton]; omega,?_⟩
    first|refine⟨(d.1,d.2),hd,?_⟩|refine⟨(d.1,d.2),trivial,?_⟩|refine⟨(d.1,d.2),?_⟩|skip
    constructor<;>simp only[go_sem,simprocAttr,decide_eq_true_eq,cellsV,vZero,V.kind_mk,V.b_mk,V.n_mk,V.s_mk,V.items_mk,V.keys_mk,encV_nil,encT_nil,ltL_app,ltL_flatV,hrk',hrk0,flat_one,flat_drop6,flat_set1]<;>first|omega|exact hT.up (by omega)|exact hT.upy (by omega) (by omega)|((repeat' (first|exact And.intro rfl (by omega)|(refine And.intro ?_ ?_)))<;>first|rfl|omega|exact hd.2.2.2 _ _|exact ltL_low (Nat.zero_le _) (Nat.zero_le _) _ q4))
end Go.Proofs.YtcgmpcbkndpmbaaGreatDoor

end
section
open Go Go.Proofs Go.Pw Go.RowKit
namespace Go.Proofs.YtcgmpcbkndpmbaaGreatDoor
set_option maxRecDepth 4000
set_option linter.unusedVariables false
set_option linter.unusedSimpArgs false
attribute [local go_sem] Nat.le_refl Tk.cells Tryz.results73 str_eq str_one
def tab_itC:List Row:=[⟨#[false,false,false,false,false,false,false,false,false,false,false],[0,3,5],11⟩,⟨#[true,false,false,false,false,false,false,false,false,false,false],[1,3,5],10⟩,⟨#[false,false,false,true,false,false,false,false,false,false,false],[0,5],10⟩,⟨#[false,false,false,false,false,true,false,false,false,false,false],[0,3],10⟩,⟨#[true,true,false,false,false,false,false,false,false,false,false],[2,3,5],9⟩,⟨#[true,false,false,true,false,false,false,false,false,false,false],[1,5],9⟩,⟨#[true,false,false,false,false,true,false,false,false,false,false],[1,3],9⟩,⟨#[false,false,false,true,false,true,false,false,false,false,false],[0],9⟩,⟨#[true,true,true,false,false,false,false,false,false,false,false],[3,4,5],8⟩,⟨#[true,true,false,true,false,false,false,false,false,false,false],[2,5],8⟩,⟨#[true,true,false,false,false,true,false,false,false,false,false],[2,3],8⟩,⟨#[true,false,false,true,false,true,false,false,false,false,false],[1],8⟩,⟨#[true,true,true,true,false,false,false,false,false,false,false],[4,5],7⟩,⟨#[true,true,true,false,true,false,false,false,false,false,false],[3,5],7⟩,⟨#[true,true,true,false,false,true,false,false,false,false,false],[3,4],7⟩,⟨#[true,true,false,true,false,true,false,false,false,false,false],[2],7⟩,⟨#[true,true,true,true,true,false,false,false,false,false,false],[5],6⟩,⟨#[true,true,true,true,false,true,false,false,false,false,false],[4],6⟩,⟨#[true,true,true,false,true,true,false,false,false,false,false],[3],6⟩,⟨#[true,true,true,true,true,true,false,false,false,false,false],[6],5⟩,⟨#[true,true,true,true,true,true,true,false,false,false,false],[7,9],4⟩,⟨#[true,true,true,true,true,true,true,true,false,false,false],[8,9],3⟩,⟨#[true,true,true,true,true,true,true,false,false,true,false],[7,10],3⟩,⟨#[true,true,true,true,true,true,true,true,true,false,false],[9],2⟩,⟨#[true,true,true,true,true,true,true,true,false,true,false],[8,10],2⟩,⟨#[true,true,true,true,true,true,true,false,false,true,true],[7],2⟩,⟨#[true,true,true,true,true,true,true,true,true,true,false],[10],1⟩,⟨#[true,true,true,true,true,true,true,true,false,true,true],[8],1⟩,⟨#[true,true,true,true,true,true,true,true,true,true,true],[],0⟩]
def itC_J (s:ByteArray)(D:Int)(r:RS)(v:V)(b:Bool)(kd:Int)(nt:Nat)(rk:PV)(T:List (Nat×Tok))(cap:Nat)(l:List V)(rest:List PV):List Bool->Nat×List PV->PS
 | [b0,b1,b2,b3,b4,b5,b6,b7,b8,b9,b10],d=>⟨(cd b0 (17,.ptr 2 4) (cd b1 (18,.ptr 2 4) (cd b2 (19,.ms 4 0 l.length cap) (cd b3 (20,.agg (cellsV v)) (cd b4 (21,vI l.length) (cd b5 (22,.sl [z6]) (cd b6 (23,.ms 23 0 (l.length+1) d.1) (cd b7 (24,.ptr 23 (l.length*6)) (cd b9 (25,.ptr 2 4) [(10,vB b),(9,.ptr 14 0),(3,.ptr 2 4),(0,.ptr 0 0)]))))))))),((0,.box 69 (.ptr 1 0::rdC D r))::(1,.box 94 [vS s,vI r.i])::(2,.box 33 [vI kd,vB false,vI 0,vS ByteArray.empty,cs b10 (.ms 23 0 (l.length+1) d.1) (.ms 4 0 l.length cap),vNil])::(3,.box 26 [rk])::(14,.box 33 (cellsV v))::cs b6 [(23,.box 33 (flatV (l++[cs b8 v vZero])++d.2))] [(4,.box 33 (flatV l++rest))]),T,17+cnt [b0,b1,b2,b3,b4,b5,b6,b7,b8,b9,b10],nt⟩
 |_,_=>⟨[],[],[],0,0⟩
def itC_P (s:ByteArray)(D:Int)(r:RS)(v:V)(b:Bool)(kd:Int)(nt:Nat)(rk:PV)(T:List (Nat×Tok))(cap:Nat)(l:List V)(rest:List PV):List Bool->Nat×List PV->Prop
 | [b0,b1,b2,b3,b4,b5,b6,b7,b8,b9,b10],d=>cs b6 (l.length+1<=d.1/\d.1<=maxLen/\d.2.length=(d.1-(l.length+1))*6/\∀x y,PV.ltL x y d.2=true) True
 |_,_=>False
set_option maxHeartbeats 64000000 in
theorem rd_item_cons (s:ByteArray)(D m kd:Int)(r0:RS)(B:An)(hv:VOk 29 s D m r0 B)(nt:Nat)(rk:PV)(T:List (Nat×Tok))(cap:Nat)(l:List V)(rest:List PV)(hrk:rk.lt 0 nt=true)(hT:TokLow T nt)(hcl:l.length<=cap)(hcm:cap<=maxLen)(hrl:rest.length=(cap-l.length)*6)(hrr:∀x y,PV.ltL x y rest=true)(hlen:l.length<=1000000) :
  OkI Tryz.prog 73 [.ptr 0 0,vI m,.ptr 3 0,.ptr 2 4] ⟨[],[(0,.box 69 (.ptr 1 0::rdC D r0)),(1,.box 94 [vS s,vI r0.i]),(2,.box 33 [vI kd,vB false,vI 0,vS ByteArray.empty,.ms 4 0 l.length cap,vNil]),(3,.box 26 [rk]),(4,.box 33 (flatV l++rest))],T,5,nt⟩
   (fun R st'=>∃(x:V×Bool×RS) (cap':Nat) (rest':List PV),VP s B x/\R=vB x.2.1/\l.length+1<=cap'/\cap'<=maxLen/\rest'.length=(cap'-(l.length+1))*6/\(∀x y,PV.ltL x y rest'=true) /\
     st'=⟨[],[(0,.box 69 (.ptr 1 0::rdC D x.2.2)),(1,.box 94 [vS s,vI x.2.2.i]),(2,.box 33 [vI kd,vB false,vI 0,vS ByteArray.empty,.ms 23 0 (l.length+1) cap',vNil]),(3,.box 26 [rk]),(23,.box 33 (flatV (l++[x.1])++rest'))],T,24,nt⟩):=by
 refine OkI.of_pwpB (by kernel_rfl) Tryz.func73 rfl (by kernel_rfl) (by kernel_rfl) (bar:=bar2 2 100 noBar) ?_
 have hmax:(1000001:Nat)<=maxLen:=by unfold maxLen; decide
 refine p_seq_k (fun K hK=>?_)
 simp -implicitDefEqProofs (disch:=omega) only[go_sem,simprocAttr,dropH,inL,cellsV]
 refine hK _ ?_
 clear hK
 refine p_seq_k (fun K hK=>?_)
 simp -implicitDefEqProofs (disch:=omega) only[go_sem,simprocAttr,dropH,inL,cellsV]
 refine CallOk.ofI (RdOk.at hv (st:=⟨[],_,_,_,_⟩) 0 1 (by decide) (by simp) (by simp) rfl (fun x _=>vpR_lt x) (by rfl) (by rfl)) rfl rfl rfl rfl ?_
 rintro R1 st' ⟨⟨v,b,r⟩,hx,rfl,nt9,q9,rfl⟩
 simp only at q9 ⊢
 simp -implicitDefEqProofs (disch:=omega) only[go_sem,simprocAttr,dropH,inL,cellsV]
 refine hK _ ?_
 clear hK
 simp -implicitDefEqProofs (disch:=omega) only[go_sem,simprocAttr,dropH,inL,cellsV]
 have hrk':∀x y,PV.lt x (nt+y) rk=true:=fun x y=>lt_low (Nat.zero_le x) (Nat.le_add_right nt y) rk hrk
 have hrk0:∀x,PV.lt x nt rk=true:=fun x=>lt_low (Nat.zero_le x) (Nat.le_refl nt) rk hrk
 have hrr':=hrr
 refine p_tab2 (by decide) ?_
 refine p_tableJ (by decide) tab_itC (by kernel_rfl) (Nat×List PV) (itC_J s D r v b kd nt rk T cap l rest) (itC_P s D r v b kd nt rk T cap l rest) (0,[]) [false,false,false,false,false,false,false,false,false,false,false] [true,true,true,true,true,true,true,true,true,true,true] rfl rfl (by simp only[itC_P,cs]) ?_ ?_ ?_
 ·simp only[itC_J]
  constructor<;>simp only[go_sem,simprocAttr,decide_eq_true_eq,cellsV,vZero,V.kind_mk,V.b_mk,V.n_mk,V.s_mk,V.items_mk,V.keys_mk,encV_nil,encT_nil,ltL_app,ltL_flatV,hrk',hrk0,flat_one,flat_drop6,flat_set1,hrr']<;>first|omega|exact hT.up (by omega)|exact hT.upy (by omega) (by omega)|((repeat' (first|exact And.intro rfl (by omega)|(refine And.intro ?_ ?_)))<;>first|rfl|omega|exact hd.2.2.2 _ _|exact ltL_low (Nat.zero_le _) (Nat.zero_le _) _ q4)
 ·rintro d hd
  simp only[itC_J,itC_P,cs]at hd ⊢
  simp -implicitDefEqProofs (disch:=omega) only[go_sem,simprocAttr,dropH,inL,cellsV]
  refine⟨⟨[],[(0,.box 69 (.ptr 1 0::rdC D r)),(1,.box 94 [vS s,vI r.i]),(2,.box 33 [vI kd,vB false,vI 0,vS ByteArray.empty,.ms 23 0 (l.length+1) d.1,vNil]),(3,.box 26 [rk]),(23,.box 33 (flatV (l++[v])++d.2))],T,24,nt⟩,⟨(v,b,r),d.1,d.2,hx,rfl,hd.1,hd.2.1,hd.2.2.1,hd.2.2.2,rfl⟩,?_⟩
  constructor<;>simp only[go_sem,simprocAttr,decide_eq_true_eq,cellsV,vZero,V.kind_mk,V.b_mk,V.n_mk,V.s_mk,V.items_mk,V.keys_mk,encV_nil,encT_nil,ltL_app,ltL_flatV,hrk',hrk0,flat_one,flat_drop6,flat_set1,hrr']<;>first|omega|exact hT.up (by omega)|exact hT.upy (by omega) (by omega)|((repeat' (first|exact And.intro rfl (by omega)|(refine And.intro ?_ ?_)))<;>first|rfl|omega|exact hd.2.2.2 _ _|exact ltL_low (Nat.zero_le _) (Nat.zero_le _) _ q4)
 intro get arr hget
 obtain⟨g0,g1,g2,g3,g4,g5,g6,g7,g8,g9,g10⟩:get 0=_/\get 1=_/\get 2=_/\get 3=_/\get 4=_/\get 5=_/\get 6=_/\get 7=_/\get 8=_/\get 9=_/\get 10=_:=⟨hget 0,hget 1,hget 2,hget 3,hget 4,hget 5,hget 6,hget 7,hget 8,hget 9,hget 10⟩
 simp only[List.getElem?_cons_zero,List.getElem?_cons_succ]at g0 g1 g2 g3 g4 g5 g6 g7 g8 g9 g10
 clear hget
 simp only[tab_itC,allE,allL,and_true,List.set_cons_zero,List.set_cons_succ]
 repeat' apply And.intro
 all_goals
  rintro d hd
  simp only[g0,g1,g2,g3,g4,g5,g6,g7,g8,g9,g10,b_some,itC_J,itC_P,cs]at hd ⊢
  clear g0 g1 g2 g3 g4 g5 g6 g7 g8 g9 g10
  first
  |(refine .inr ?_
    refine sem_append (P:=Tryz.prog) (cs:=flatV l++rest) (id:=4) (n:=l.length) (cap:=cap) (sz:=6) (by_:=88) (ys:=[z6]) Tryz.underlying31 rfl rfl rfl rfl (by decide) one_V' rfl rfl (by rw[List.length_append,flatV_len,hrl]; omega) hcl hcm (by rw[flat_drop1]; exact hrr 0 0) rfl rfl rfl (fun y hy=>by rw[List.mem_singleton]at hy; subst hy; rfl) (by simp) (by simp only[List.length_singleton]; omega) (by simp only[List.length_singleton]; omega) (fun cap' rest' q1 q2 q3 q4=>?_)
    simp only[List.length_singleton,List.flatten_cons,List.flatten_nil,List.append_nil,Nat.zero_add]at q1 q3 ⊢
    rw[flat_app1,z6_cells,<-flat_one vZero,<-flatV_app']
    refine⟨(cap',rest'),⟨q1,q2,q3,fun x y=>ltL_low (Nat.zero_le x) (Nat.zero_le y) _ q4⟩,?_⟩
    constructor<;>simp only[go_sem,simprocAttr,decide_eq_true_eq,cellsV,vZero,V.kind_mk,V.b_mk,V.n_mk,V.s_mk,V.items_mk,V.keys_mk,encV_nil,encT_nil,ltL_app,ltL_flatV,hrk',hrk0,flat_one,flat_drop6,flat_set1,hrr']<;>first|omega|exact hT.up (by omega)|exact hT.upy (by omega) (by omega)|((repeat' (first|exact And.intro rfl (by omega)|(refine And.intro ?_ ?_)))<;>first|rfl|omega|exact hd.2.2.2 _ _|exact ltL_low (Nat.zero_le _) (Nat.zero_le _) _ q4))
  |(refine .inl ?_
    simp -implicitDefEqProofs (disch:=omega) only[go_sem,simprocAttr,dropH,inL,cellsV]
    try refine And.intro (fun x hx=>by rw[List.mem_singleton]at hx; subst hx; rfl) ?_
    repeat refine And.intro (by first|rfl|decide) ?_
    try refine⟨by rw[List.length_append,flatV_len,List.length_append,List.length_singleton]; omega,?_⟩
    first|refine⟨(d.1,d.2),hd,?_⟩|refine⟨(d.1,d.2),trivial,?_⟩|refine⟨(d.1,d.2),?_⟩|skip
    constructor<;>simp only[go_sem,simprocAttr,decide_eq_true_eq,cellsV,vZero,V.kind_mk,V.b_mk,V.n_mk,V.s_mk,V.items_mk,V.keys_mk,encV_nil,encT_nil,ltL_app,ltL_flatV,hrk',hrk0,flat_one,flat_drop6,flat_set1,hrr']<;>first|omega|exact hT.up (by omega)|exact hT.upy (by omega) (by omega)|((repeat' (first|exact And.intro rfl (by omega)|(refine And.intro ?_ ?_)))<;>first|rfl|omega|exact hd.2.2.2 _ _|exact ltL_low (Nat.zero_le _) (Nat.zero_le _) _ q4))
end Go.Proofs.YtcgmpcbkndpmbaaGreatDoor

end
section
open Go Go.Proofs Go.Pw Go.RowKit
namespace Go.Proofs.YtcgmpcbkndpmbaaGreatDoor
set_option maxRecDepth 4000
set_option linter.unusedVariables false
set_option linter.unusedSimpArgs false
set_option maxHeartbeats 4000000 in
theorem item_at_nil {s:ByteArray}{D m kd:Int}{r0:RS}{B:An}(hv:VOk 29 s D m r0 B)(iv ik:Nat){st:PS}(lt:List Nat)(rk0 rk:PV)(T0:List (Nat×Tok))(hrk:rk0.lt 0 lt.length=true)(hT:TokLow T0 lt.length)(hnd:([0,1,iv,ik]:List Nat).Nodup)(h0n:0<st.nx)(h1n:1<st.nx)(hvn:iv<st.nx)(hkn:ik<st.nx)
  (hndt:lt.Nodup) (hltt:∀j∈lt,j<st.nt) (ht:∀e∈T0,e.1<lt.length/\lkp st.toks (rnF lt st.nt e.1)=some e.2) (hrm:∀f,rk0.rm f (rnF lt st.nt)=rk)
  (o0:lkp st.heap 0=some (.box 69 (.ptr 1 0::rdC D r0))) (o1:lkp st.heap 1=some (.box 94 [vS s,vI r0.i])) (o2:lkp st.heap iv=some (.box 33 [vI kd,vB false,vI 0,vS ByteArray.empty,vNil,vNil])) (o3:lkp st.heap ik=some (.box 26 [rk])) :
  OkI Tryz.prog 73 [.ptr 0 0,vI m,.ptr ik 0,.ptr iv 4] st
   (fun R st'=>∃(x:V×Bool×RS) (cap':Nat) (rest':List PV) (nt':Nat),VP s B x/\R=vB x.2.1/\st.nt<=nt'/\0+1<=cap'/\cap'<=maxLen/\rest'.length=(cap'-(0+1))*6/\(∀x y,PV.ltL x y rest'=true) /\
    st'=⟨st.env,[(0,.box 69 (.ptr 1 0::rdC D x.2.2)),(1,.box 94 [vS s,vI x.2.2.i]),(iv,.box 33 [vI kd,vB false,vI 0,vS ByteArray.empty,.ms (18+st.nx) 0 (0+1) cap',vNil]),(ik,.box 26 [rk]),(18+st.nx,.box 33 (flatV ([]++[x.1])++rest'))]++dropH [0,1,iv,ik] st.heap,rmK (rnF lt st.nt) T0++dropK lt st.toks,19+st.nx,nt'⟩):=by
 have hlt:∀j∈([0,1,iv,ik]:List Nat),j<st.nx:=fun j hj=>by
  simp only[List.mem_cons,List.not_mem_nil,or_false]at hj
  rcases hj with rfl|rfl|rfl|rfl<;>assumption
 have f0:rnF [0,1,iv,ik] st.nx 0=0:=rfl
 have f1:rnF [0,1,iv,ik] st.nx 1=1:=rfl
 have f2:rnF [0,1,iv,ik] st.nx 2=iv:=rfl
 have f3:rnF [0,1,iv,ik] st.nx 3=ik:=rfl
 skip
 have fN:rnF [0,1,iv,ik] st.nx 22=18+st.nx:=rnF_high (l:=[0,1,iv,ik]) 22 (by simp)
 have base:=rd_item_nil s D m kd r0 B hv lt.length rk0 T0 hrk hT
 refine OkI.mono' (OkI.frameT [0,1,iv,ik] lt base hnd hlt hndt hltt (fun e he=>?_) ht ?_ ?_) ?_
 ·simp only[List.mem_cons,List.not_mem_nil,or_false]at he
  have k0:∀x,rk0.lt x lt.length=true:=fun x=>lt_low (Nat.zero_le x) (Nat.le_refl _) rk0 hrk
  rcases he with rfl|rfl|rfl|rfl
  ·exact⟨by simp,by simp[PObj.lt,PV.ltL,PV.lt],by rw[f0,o0]; rfl⟩
  ·exact⟨by simp,by simp[PObj.lt,PV.ltL,PV.lt],by rw[f1,o1]; rfl⟩
  ·exact⟨by simp,by simp[PObj.lt,PV.ltL,PV.lt],by rw[f2,o2]; rfl⟩
  ·exact⟨by simp,by simp[PObj.lt,PV.ltL,k0],by rw[f3,o3,PObj.rm,PV.rmL,PV.rmL,hrm]⟩
 ·simp[PV.ltL,PV.lt]
 ·simp only[PV.rmL,PV.rm,f0,f2,f3]
 ·rintro R st' ⟨R0,s0,⟨x,cap',rest',hx,rfl,q1,q2,q3,q4,rfl⟩,rfl,rfl⟩
  have fz:∀f g,PV.rmL f g (flatV ([]++[x.1])++rest')=flatV ([]++[x.1])++rest':=fun f g=>rmL_frz _ (by rw[ltL_app,ltL_flatV,q4]; rfl)
  refine⟨x,cap',rest',lt.length-lt.length+st.nt,hx,rfl,by omega,q1,q2,q3,q4,?_⟩
  simp only[rmH,PObj.rm,PV.rmL,PV.rm,f0,f1,f2,f3,fN,hrm,fz,List.length_cons,List.length_nil]
set_option maxHeartbeats 4000000 in
theorem item_at_cons {s:ByteArray}{D m kd:Int}{r0:RS}{B:An}(hv:VOk 29 s D m r0 B)(iv ik ii cap:Nat)(l:List V)(rest:List PV){st:PS}(lt:List Nat)(rk0 rk:PV)(T0:List (Nat×Tok))(hrk:rk0.lt 0 lt.length=true)(hT:TokLow T0 lt.length)(hnd:([0,1,iv,ik,ii]:List Nat).Nodup)(h0n:0<st.nx)(h1n:1<st.nx)(hvn:iv<st.nx)(hkn:ik<st.nx)(hin:ii<st.nx)(hcl:l.length<=cap)(hcm:cap<=maxLen)(hrl:rest.length=(cap-l.length)*6)(hrr:∀x y,PV.ltL x y rest=true)(hlen:l.length<=1000000)
  (hndt:lt.Nodup) (hltt:∀j∈lt,j<st.nt) (ht:∀e∈T0,e.1<lt.length/\lkp st.toks (rnF lt st.nt e.1)=some e.2) (hrm:∀f,rk0.rm f (rnF lt st.nt)=rk)
  (o0:lkp st.heap 0=some (.box 69 (.ptr 1 0::rdC D r0))) (o1:lkp st.heap 1=some (.box 94 [vS s,vI r0.i])) (o2:lkp st.heap iv=some (.box 33 [vI kd,vB false,vI 0,vS ByteArray.empty,.ms ii 0 l.length cap,vNil])) (o3:lkp st.heap ik=some (.box 26 [rk])) (o4:lkp st.heap ii=some (.box 33 (flatV l++rest))) :
  OkI Tryz.prog 73 [.ptr 0 0,vI m,.ptr ik 0,.ptr iv 4] st
   (fun R st'=>∃(x:V×Bool×RS) (cap':Nat) (rest':List PV) (nt':Nat),VP s B x/\R=vB x.2.1/\st.nt<=nt'/\l.length+1<=cap'/\cap'<=maxLen/\rest'.length=(cap'-(l.length+1))*6/\(∀x y,PV.ltL x y rest'=true) /\
    st'=⟨st.env,[(0,.box 69 (.ptr 1 0::rdC D x.2.2)),(1,.box 94 [vS s,vI x.2.2.i]),(iv,.box 33 [vI kd,vB false,vI 0,vS ByteArray.empty,.ms (18+st.nx) 0 (l.length+1) cap',vNil]),(ik,.box 26 [rk]),(18+st.nx,.box 33 (flatV (l++[x.1])++rest'))]++dropH [0,1,iv,ik,ii] st.heap,rmK (rnF lt st.nt) T0++dropK lt st.toks,19+st.nx,nt'⟩):=by
 have hlt:∀j∈([0,1,iv,ik,ii]:List Nat),j<st.nx:=fun j hj=>by
  simp only[List.mem_cons,List.not_mem_nil,or_false]at hj
  rcases hj with rfl|rfl|rfl|rfl|rfl<;>assumption
 have f0:rnF [0,1,iv,ik,ii] st.nx 0=0:=rfl
 have f1:rnF [0,1,iv,ik,ii] st.nx 1=1:=rfl
 have f2:rnF [0,1,iv,ik,ii] st.nx 2=iv:=rfl
 have f3:rnF [0,1,iv,ik,ii] st.nx 3=ik:=rfl
 have f4:rnF [0,1,iv,ik,ii] st.nx 4=ii:=rfl
 have fN:rnF [0,1,iv,ik,ii] st.nx 23=18+st.nx:=rnF_high (l:=[0,1,iv,ik,ii]) 23 (by simp)
 have base:=rd_item_cons s D m kd r0 B hv lt.length rk0 T0 cap l rest hrk hT hcl hcm hrl hrr hlen
 refine OkI.mono' (OkI.frameT [0,1,iv,ik,ii] lt base hnd hlt hndt hltt (fun e he=>?_) ht ?_ ?_) ?_
 ·simp only[List.mem_cons,List.not_mem_nil,or_false]at he
  have k0:∀x,rk0.lt x lt.length=true:=fun x=>lt_low (Nat.zero_le x) (Nat.le_refl _) rk0 hrk
  rcases he with rfl|rfl|rfl|rfl|rfl
  ·exact⟨by simp,by simp[PObj.lt,PV.ltL,PV.lt],by rw[f0,o0]; rfl⟩
  ·exact⟨by simp,by simp[PObj.lt,PV.ltL,PV.lt],by rw[f1,o1]; rfl⟩
  ·exact⟨by simp,by simp[PObj.lt,PV.ltL,PV.lt],by rw[f2,o2]; rfl⟩
  ·exact⟨by simp,by simp[PObj.lt,PV.ltL,k0],by rw[f3,o3,PObj.rm,PV.rmL,PV.rmL,hrm]⟩
  ·exact⟨by simp,by simp only[PObj.lt]; rw[ltL_app,ltL_flatV,hrr]; rfl,by rw[f4,o4,PObj.rm,rmL_frz _ (by rw[ltL_app,ltL_flatV,hrr]; rfl)]⟩
 ·simp[PV.ltL,PV.lt]
 ·simp only[PV.rmL,PV.rm,f0,f2,f3]
 ·rintro R st' ⟨R0,s0,⟨x,cap',rest',hx,rfl,q1,q2,q3,q4,rfl⟩,rfl,rfl⟩
  have fz:∀f g,PV.rmL f g (flatV (l++[x.1])++rest')=flatV (l++[x.1])++rest':=fun f g=>rmL_frz _ (by rw[ltL_app,ltL_flatV,q4]; rfl)
  refine⟨x,cap',rest',lt.length-lt.length+st.nt,hx,rfl,by omega,q1,q2,q3,q4,?_⟩
  simp only[rmH,PObj.rm,PV.rmL,PV.rm,f0,f1,f2,f3,fN,hrm,fz,List.length_cons,List.length_nil]
end Go.Proofs.YtcgmpcbkndpmbaaGreatDoor

end
section
open Go Go.Proofs Go.Pw Go.RowKit
namespace Go.Proofs.YtcgmpcbkndpmbaaGreatDoor
set_option maxRecDepth 4000
set_option linter.unusedVariables false
set_option linter.unusedSimpArgs false
attribute [local go_sem] Nat.le_refl Tk.cells Tryz.results74 drop01 drop01_0 drop01_1 dropH_nil encT_len str_eq str_one
def memB (s:ByteArray)(f:Nat->An)(p:Nat)(ks:List ByteArray):An:=
 if(nT s p).kind≠2 then .bad 1 (nT s p).at_ else
 if(ks.any fun k=>decide (k=(nT s p).text))=true then .bad 5 (nT s p).at_ else
 if nE s (nQ s p)≠0 then .bad (nE s (nQ s p)) (nP s (nQ s p)) else
 if(nT s (nQ s p)).sign 58=false then .bad 1 (nT s (nQ s p)).at_ else
 if nE s (nQ s (nQ s p))≠0 then .bad (nE s (nQ s (nQ s p))) (nP s (nQ s (nQ s p))) else fin s (f (nQ s (nQ s p)))
theorem vp_bad' {s:ByteArray}{e:Int}{p:Nat}{r:RS}{v:V}(he:e≠0)(h1:r.place=p)(h2:r.code=e)(hz:szV v<=200000):VP s (.bad e p) (v,false,r):=
 ⟨(decide_eq_false he).symm,fun h=>absurd h he,fun _=>⟨h1,h2⟩,hz⟩
theorem encT_snocM (l:List ByteArray)(s:ByteArray):encT l++[[PV.val (.string s)]]=encT (l++[s]):=by simp[encT]
theorem TokLow.one {k:Nat}{t:Tok}{n:Nat}(h:k<n):TokLow [(k,t)] n:=fun e he=>by
 rw[List.mem_singleton]at he
 subst he
 exact⟨by simp[lkp],h⟩
def MemQ (s:ByteArray)(D kd:Int)(B:An)(n nt NW KT NX NT:Nat)(key:ByteArray)(l:List V)(ks:List ByteArray)(R:PV)(st':PS):Prop:=
 ∃(x:V×Bool×RS),VP s B x/\R=vB x.2.1 /\
  (x.2.1=false->st'=⟨[],[(0,.box 69 (.ptr 1 0::rdC D x.2.2)),(1,.box 94 [vS s,vI x.2.2.i])],[],n,nt⟩) /\
  (x.2.1=true->∃(cap':Nat) (rest':List PV),l.length+1<=cap'/\cap'<=maxLen/\rest'.length=(cap'-(l.length+1))*6/\(∀x y,PV.ltL x y rest'=true) /\
   st'=⟨[],[(0,.box 69 (.ptr 1 0::rdC D x.2.2)),(1,.box 94 [vS s,vI x.2.2.i]),(2,.box 33 [vI kd,vB false,vI 0,vS ByteArray.empty,.ms NW 0 (l.length+1) cap',vNil]),(3,.box 26 [.row KT (encT (ks++[key]))]),(NW,.box 33 (flatV (l++[x.1])++rest'))],[(KT,⟨9,1,ks.length+1⟩)],NX,NT⟩)
set_option maxHeartbeats 32000000 in
theorem rd_member_nil (s:ByteArray)(hs:s.size<=20000)(D m kd:Int)(f:Nat->An)(p:Nat)(hp:p<=s.size)(h1:nE s p=0)(t:Tk)(i:Nat)(e1:t=nT s p)(e2:i=nQ s p)(place code:Int)
  (hv0:nE s (nQ s p)=0->nE s (nQ s (nQ s p))=0->VOk 29 s D m ⟨nT s (nQ s (nQ s p)),nQ s (nQ s (nQ s p)),place,code⟩ (fin s (f (nQ s (nQ s p)))))  :
  OkI Tryz.prog 74 [.ptr 0 0,vI m,.ptr 3 0,.ptr 2 4] ⟨[],[(0,.box 69 (.ptr 1 0::rdC D ⟨t,i,place,code⟩)),(1,.box 94 [vS s,vI i]),(2,.box 33 [vI kd,vB false,vI 0,vS ByteArray.empty,vNil,vNil]),(3,.box 26 [vNil])],[],4,0⟩ (MemQ s D kd (memB s f p []) 4 0 64 11 65 12 t.text [] []):=by
 have tk1:=tk_ok s p hp
 have tk2:=tk_ok s (nQ s p) tk1.le
 have hi:i<=s.size:=by rw[e2]; exact tk1.le
 have cn1:=rd_next s D ⟨t,i,place,code⟩ hi (by omega)
 have cf1:=rd_fail s D ⟨t,i,place,code⟩ t.at_ 1
 have cf5:=rd_fail s D ⟨t,i,place,code⟩ t.at_ 5
 unfold memB
 rw[<-e1,<-e2]at *
 refine OkI.of_pwp (by kernel_rfl) Tryz.func74 rfl (by kernel_rfl) (by kernel_rfl) ?_
 by_cases hk2:t.kind=2
 rotate_left
 ·rw[if_pos hk2]
  simp -implicitDefEqProofs (disch:=omega) only[go_sem,simprocAttr, ↓ix_Tr, ↓ix_T,dropH,inL,decide_eq_false hk2]
  refine CallOk.ofI (cf1.at (st:=⟨[],_,_,_,_⟩) 0 1 (by decide) (by simp) (by simp) rfl (fun _ _=>rfl) (by rfl) (by rfl)) rfl rfl rfl rfl ?_
  rintro R1 st' ⟨_,_,rfl,nt9,q9,rfl⟩; simp only at q9 ⊢
  simp -implicitDefEqProofs (disch:=omega) only[go_sem,simprocAttr, ↓ix_Tr, ↓ix_T,dropH,inL]
  refine⟨⟨[],[(0,.box 69 (.ptr 1 0::rdC D ⟨t,i,t.at_,1⟩)),(1,.box 94 [vS s,vI (⟨t,i,t.at_,1⟩:RS).i])],[],4,0⟩,⟨(vZero,false,⟨t,i,t.at_,1⟩),vp_bad' (by decide) rfl rfl vZero_sz,rfl,(fun _=>rfl),(fun h=>by cases h)⟩,?_⟩
  constructor<;>simp only[go_sem,simprocAttr,decide_eq_true_eq,Int.natCast_add,Int.natCast_one,List.cons_append,List.nil_append,ltL_app,ltL_flatV]<;>try ((repeat' apply And.intro)<;>first|rfl|omega|(congr 3; omega)|(congr 2; omega))
 rw[if_neg (by rw[hk2]; decide)]
 simp -implicitDefEqProofs (disch:=omega) only[go_sem,simprocAttr, ↓ix_Tr, ↓ix_T,dropH,inL,hk2]
 refine p_loop (ι:=Unit) (fun q=>⟨[(28,vI 0),(27,vI 0),(26,vNil),(0,.ptr 0 0),(1,vI m),(2,.ptr 3 0),(3,.ptr 2 4)],[(0,.box 69 (.ptr 1 0::rdC D ⟨t,i,place,code⟩)),(1,.box 94 [vS s,vI i]),(2,.box 33 [vI kd,vB false,vI 0,vS ByteArray.empty,vNil,vNil]),(3,.box 26 [vNil])],[],4,0⟩) (fun q=>0) () ?_ ?_
 ·constructor<;>simp only[go_sem,simprocAttr,decide_eq_true_eq,Int.natCast_zero]<;>try ((repeat' apply And.intro)<;>first|rfl|omega|(congr 3; omega)|(congr 2; omega))
 rintro⟨⟩
 rw[if_neg (show ¬(([]:List ByteArray).any fun k=>decide (k=t.text))=true by simp)]
 simp -implicitDefEqProofs (disch:=omega) only[go_sem,simprocAttr, ↓ix_Tr, ↓ix_T,dropH,inL]
 refine CallOk.ofI (cn1.at (st:=⟨[],_,_,_,_⟩) 0 1 (by decide) (by simp) (by simp) rfl (fun _ _=>rfl) (by rfl) (by rfl)) rfl rfl rfl rfl ?_
 rintro R1 st' ⟨_,_,rfl,nt9,q9,rfl⟩; simp only at q9 ⊢
 unfold nxtB nxtR
 simp only
 by_cases n1:nE s i=0
 rotate_left
 ·rw[if_pos n1,if_neg n1,decide_eq_false n1]
  simp -implicitDefEqProofs (disch:=omega) only[go_sem,simprocAttr, ↓ix_Tr, ↓ix_T,dropH,inL]
  refine⟨⟨[],[(0,.box 69 (.ptr 1 0::rdC D ⟨t,nQ s i,nP s i,nE s i⟩)),(1,.box 94 [vS s,vI (⟨t,nQ s i,nP s i,nE s i⟩:RS).i])],[],4,0⟩,⟨(vZero,false,⟨t,nQ s i,nP s i,nE s i⟩),vp_bad' n1 rfl rfl vZero_sz,rfl,(fun _=>rfl),(fun h=>by cases h)⟩,?_⟩
  constructor<;>simp only[go_sem,simprocAttr,decide_eq_true_eq,Int.natCast_add,Int.natCast_one,List.cons_append,List.nil_append,ltL_app,ltL_flatV]<;>try ((repeat' apply And.intro)<;>first|rfl|omega|(congr 3; omega)|(congr 2; omega))
 rw[if_neg (show ¬nE s i≠0 by rw[n1]; decide),if_pos n1,decide_eq_true n1]
 have cd:=rd_need s D ⟨nT s i,nQ s i,place,code⟩ 58
 simp -implicitDefEqProofs (disch:=omega) only[go_sem,simprocAttr, ↓ix_Tr, ↓ix_T,dropH,inL]
 refine CallOk.ofI (cd.at (st:=⟨[],_,_,_,_⟩) 0 1 (by decide) (by simp) (by simp) rfl (fun _ _=>rfl) (by rfl) (by rfl)) rfl rfl rfl rfl ?_
 rintro R1 st' ⟨_,_,rfl,nt8,q8,rfl⟩; simp only at q8 ⊢
 unfold needR
 simp only
 cases n2:(nT s i).sign 58 with
 |false=>
  rw[if_pos rfl,if_neg (show ¬(false=true) by decide)]
  simp -implicitDefEqProofs (disch:=omega) only[go_sem,simprocAttr, ↓ix_Tr, ↓ix_T,dropH,inL]
  refine⟨⟨[],[(0,.box 69 (.ptr 1 0::rdC D ⟨nT s i,nQ s i,(nT s i).at_,1⟩)),(1,.box 94 [vS s,vI (⟨nT s i,nQ s i,(nT s i).at_,1⟩:RS).i])],[],4,0⟩,⟨(vZero,false,⟨nT s i,nQ s i,(nT s i).at_,1⟩),vp_bad' (by decide) rfl rfl vZero_sz,rfl,(fun _=>rfl),(fun h=>by cases h)⟩,?_⟩
  constructor<;>simp only[go_sem,simprocAttr,decide_eq_true_eq,Int.natCast_add,Int.natCast_one,List.cons_append,List.nil_append,ltL_app,ltL_flatV]<;>try ((repeat' apply And.intro)<;>first|rfl|omega|(congr 3; omega)|(congr 2; omega))
 |true=>
 rw[if_neg (show ¬(true=false) by decide),if_pos rfl]
 have cn2:=rd_next s D ⟨nT s i,nQ s i,place,code⟩ tk2.le (by omega)
 simp -implicitDefEqProofs (disch:=omega) only[go_sem,simprocAttr, ↓ix_Tr, ↓ix_T,dropH,inL]
 refine CallOk.ofI (cn2.at (st:=⟨[],_,_,_,_⟩) 0 1 (by decide) (by simp) (by simp) rfl (fun _ _=>rfl) (by rfl) (by rfl)) rfl rfl rfl rfl ?_
 rintro R1 st' ⟨_,_,rfl,nt7,q7,rfl⟩; simp only at q7 ⊢
 unfold nxtB nxtR
 simp only
 by_cases n3:nE s (nQ s i)=0
 rotate_left
 ·rw[if_pos n3,if_neg n3,decide_eq_false n3]
  simp -implicitDefEqProofs (disch:=omega) only[go_sem,simprocAttr, ↓ix_Tr, ↓ix_T,dropH,inL]
  refine⟨⟨[],[(0,.box 69 (.ptr 1 0::rdC D ⟨nT s i,nQ s (nQ s i),nP s (nQ s i),nE s (nQ s i)⟩)),(1,.box 94 [vS s,vI (⟨nT s i,nQ s (nQ s i),nP s (nQ s i),nE s (nQ s i)⟩:RS).i])],[],4,0⟩,⟨(vZero,false,⟨nT s i,nQ s (nQ s i),nP s (nQ s i),nE s (nQ s i)⟩),vp_bad' n3 rfl rfl vZero_sz,rfl,(fun _=>rfl),(fun h=>by cases h)⟩,?_⟩
  constructor<;>simp only[go_sem,simprocAttr,decide_eq_true_eq,Int.natCast_add,Int.natCast_one,List.cons_append,List.nil_append,ltL_app,ltL_flatV]<;>try ((repeat' apply And.intro)<;>first|rfl|omega|(congr 3; omega)|(congr 2; omega))
 rw[if_neg (show ¬nE s (nQ s i)≠0 by rw[n3]; decide),if_pos n3,decide_eq_true n3]
 have hv:=hv0 n1 n3
 simp -implicitDefEqProofs (disch:=omega) only[go_sem,simprocAttr, ↓ix_Tr, ↓ix_T,dropH,inL]
 refine CallOk.ofI (item_at_nil hv (st:=⟨[],_,_,_,_⟩) 2 3 [11] (.row 0 (encT ([]++[t.text]))) (.row 11 (encT ([]++[t.text]))) [(0,⟨9,1,0+1⟩)] rfl (TokLow.one (by decide)) (by decide) (by simp) (by simp) (by simp) (by simp) (by decide) (by simp) (fun e he=>by rw[List.mem_singleton]at he; subst he; exact⟨by simp,rfl⟩) (fun f=>rfl) (by rfl) (by rfl) (by rfl) (by rfl)) rfl rfl rfl rfl ?_
 rintro R1 st' ⟨x,cap',rest',nt5,hx,rfl,q5,r1,r2,r3,r4,rfl⟩
 simp only at q5
 simp -implicitDefEqProofs (disch:=omega) only[go_sem,simprocAttr, ↓ix_Tr, ↓ix_T,dropH,inL,rmK,dropK]
 obtain⟨v,b,r⟩:=x
 cases b with
 |false=>
  refine⟨⟨[],[(0,.box 69 (.ptr 1 0::rdC D r)),(1,.box 94 [vS s,vI r.i])],[],4,0⟩,⟨(v,false,r),hx,rfl,(fun _=>rfl),(fun h=>by cases h)⟩,?_⟩
  constructor<;>simp only[go_sem,simprocAttr,decide_eq_true_eq,Int.natCast_add,Int.natCast_one,List.cons_append,List.nil_append,ltL_app,ltL_flatV]<;>try ((repeat' apply And.intro)<;>first|rfl|omega|(congr 3; omega)|(congr 2; omega))
 |true=>
  refine⟨⟨[],[(0,.box 69 (.ptr 1 0::rdC D r)),(1,.box 94 [vS s,vI r.i]),(2,.box 33 [vI kd,vB false,vI 0,vS ByteArray.empty,.ms 64 0 (0+1) cap',vNil]),(3,.box 26 [.row 11 (encT ([]++[t.text]))]),(64,.box 33 (flatV ([]++[v])++rest'))],[(11,⟨9,1,0+1⟩)],65,12⟩,⟨(v,true,r),hx,rfl,(fun h=>by cases h),fun _=>⟨cap',rest',r1,r2,r3,r4,rfl⟩⟩,?_⟩
  constructor<;>simp only[go_sem,simprocAttr,decide_eq_true_eq,ltL_app,ltL_flatV,r4,encT_snocM]<;>try ((repeat' apply And.intro)<;>first|rfl|omega|(congr 3; omega)|(congr 2; omega))
end Go.Proofs.YtcgmpcbkndpmbaaGreatDoor

end
section
open Go Go.Proofs Go.Pw Go.RowKit
namespace Go.Proofs.YtcgmpcbkndpmbaaGreatDoor
set_option maxRecDepth 4000
set_option linter.unusedVariables false
set_option linter.unusedSimpArgs false
attribute [local go_sem] Nat.le_refl Tk.cells Tryz.results74 drop01 drop01_0 drop01_1 dropH_nil encT_len str_eq str_one
set_option maxHeartbeats 32000000 in
theorem rd_member_cons (s:ByteArray)(hs:s.size<=20000)(D m kd:Int)(f:Nat->An)(p:Nat)(hp:p<=s.size)(h1:nE s p=0)(t:Tk)(i:Nat)(e1:t=nT s p)(e2:i=nQ s p)(place code:Int)
  (hv0:nE s (nQ s p)=0->nE s (nQ s (nQ s p))=0->VOk 29 s D m ⟨nT s (nQ s (nQ s p)),nQ s (nQ s (nQ s p)),place,code⟩ (fin s (f (nQ s (nQ s p)))))  (cap:Nat) (l:List V) (rest:List PV) (ks:List ByteArray) (hcl:l.length<=cap) (hcm:cap<=maxLen) (hrl:rest.length=(cap-l.length)*6) (hrr:∀x y,PV.ltL x y rest=true) (hlen:l.length<=1000000) (hks:ks.length<=1000000) :
  OkI Tryz.prog 74 [.ptr 0 0,vI m,.ptr 3 0,.ptr 2 4] ⟨[],[(0,.box 69 (.ptr 1 0::rdC D ⟨t,i,place,code⟩)),(1,.box 94 [vS s,vI i]),(2,.box 33 [vI kd,vB false,vI 0,vS ByteArray.empty,.ms 4 0 l.length cap,vNil]),(3,.box 26 [.row 0 (encT ks)]),(4,.box 33 (flatV l++rest))],[(0,⟨9,1,ks.length⟩)],5,1⟩ (MemQ s D kd (memB s f p ks) 5 1 65 0 66 1 t.text l ks):=by
 have tk1:=tk_ok s p hp
 have tk2:=tk_ok s (nQ s p) tk1.le
 have hi:i<=s.size:=by rw[e2]; exact tk1.le
 have cn1:=rd_next s D ⟨t,i,place,code⟩ hi (by omega)
 have cf1:=rd_fail s D ⟨t,i,place,code⟩ t.at_ 1
 have cf5:=rd_fail s D ⟨t,i,place,code⟩ t.at_ 5
 unfold memB
 rw[<-e1,<-e2]at *
 refine OkI.of_pwp (by kernel_rfl) Tryz.func74 rfl (by kernel_rfl) (by kernel_rfl) ?_
 by_cases hk2:t.kind=2
 rotate_left
 ·rw[if_pos hk2]
  simp -implicitDefEqProofs (disch:=omega) only[go_sem,simprocAttr, ↓ix_Tr, ↓ix_T,dropH,inL,decide_eq_false hk2]
  refine CallOk.ofI (cf1.at (st:=⟨[],_,_,_,_⟩) 0 1 (by decide) (by simp) (by simp) rfl (fun _ _=>rfl) (by rfl) (by rfl)) rfl rfl rfl rfl ?_
  rintro R1 st' ⟨_,_,rfl,nt9,q9,rfl⟩; simp only at q9 ⊢
  simp -implicitDefEqProofs (disch:=omega) only[go_sem,simprocAttr, ↓ix_Tr, ↓ix_T,dropH,inL]
  refine⟨⟨[],[(0,.box 69 (.ptr 1 0::rdC D ⟨t,i,t.at_,1⟩)),(1,.box 94 [vS s,vI (⟨t,i,t.at_,1⟩:RS).i])],[],5,1⟩,⟨(vZero,false,⟨t,i,t.at_,1⟩),vp_bad' (by decide) rfl rfl vZero_sz,rfl,(fun _=>rfl),(fun h=>by cases h)⟩,?_⟩
  constructor<;>simp only[go_sem,simprocAttr,decide_eq_true_eq,Int.natCast_add,Int.natCast_one,List.cons_append,List.nil_append,ltL_app,ltL_flatV,hrr]<;>try ((repeat' apply And.intro)<;>first|rfl|omega|(congr 3; omega)|(congr 2; omega))
 rw[if_neg (by rw[hk2]; decide)]
 simp -implicitDefEqProofs (disch:=omega) only[go_sem,simprocAttr, ↓ix_Tr, ↓ix_T,dropH,inL,hk2]
 refine p_loop (ι:={ j:Nat // j<=ks.length/\∀k,k<j->¬ks.getD k ByteArray.empty=t.text }) (fun q=>⟨[(28,vI q.1),(27,vI ks.length),(26,.row 0 (encT ks)),(0,.ptr 0 0),(1,vI m),(2,.ptr 3 0),(3,.ptr 2 4)],[(0,.box 69 (.ptr 1 0::rdC D ⟨t,i,place,code⟩)),(1,.box 94 [vS s,vI i]),(2,.box 33 [vI kd,vB false,vI 0,vS ByteArray.empty,.ms 4 0 l.length cap,vNil]),(3,.box 26 [.row 0 (encT ks)]),(4,.box 33 (flatV l++rest))],[(0,⟨9,1,ks.length⟩)],5,1⟩) (fun q=>ks.length-q.1) ⟨0,Nat.zero_le _,fun k h=>absurd h (Nat.not_lt_zero _)⟩ ?_ ?_
 ·constructor<;>simp only[go_sem,simprocAttr,decide_eq_true_eq,Int.natCast_zero,ltL_app,ltL_flatV,hrr]<;>try ((repeat' apply And.intro)<;>first|rfl|omega|(congr 3; omega)|(congr 2; omega))
 rintro⟨j,g1,g2⟩
 simp only at g1 g2 ⊢
 by_cases hj:j<ks.length
 ·by_cases hd:ks.getD j ByteArray.empty=t.text
  ·have hany:(ks.any fun k=>decide (k=t.text))=true:=by
    rw[List.any_eq_true]
    refine⟨ks.getD j ByteArray.empty,?_,decide_eq_true hd⟩
    rw[List.getD_eq_getElem?_getD,List.getElem?_eq_getElem hj]
    exact List.getElem_mem hj
   rw[if_pos hany]
   simp -implicitDefEqProofs (disch:=omega) only[go_sem,simprocAttr, ↓ix_Tr, ↓ix_T,dropH,inL,decide_eq_true hd]
   refine CallOk.ofI (cf5.at (st:=⟨[],_,_,_,_⟩) 0 1 (by decide) (by simp) (by simp) rfl (fun _ _=>rfl) (by rfl) (by rfl)) rfl rfl rfl rfl ?_
   rintro R1 st' ⟨_,_,rfl,nt9,q9,rfl⟩; simp only at q9 ⊢
   simp -implicitDefEqProofs (disch:=omega) only[go_sem,simprocAttr, ↓ix_Tr, ↓ix_T,dropH,inL]
   refine⟨⟨[],[(0,.box 69 (.ptr 1 0::rdC D ⟨t,i,t.at_,5⟩)),(1,.box 94 [vS s,vI (⟨t,i,t.at_,5⟩:RS).i])],[],5,1⟩,⟨(vZero,false,⟨t,i,t.at_,5⟩),vp_bad' (by decide) rfl rfl vZero_sz,rfl,(fun _=>rfl),(fun h=>by cases h)⟩,?_⟩
   constructor<;>simp only[go_sem,simprocAttr,decide_eq_true_eq,Int.natCast_add,Int.natCast_one,List.cons_append,List.nil_append,ltL_app,ltL_flatV,hrr]<;>try ((repeat' apply And.intro)<;>first|rfl|omega|(congr 3; omega)|(congr 2; omega))
  ·simp -implicitDefEqProofs (disch:=omega) only[go_sem,simprocAttr, ↓ix_Tr, ↓ix_T,dropH,inL,decide_eq_false hd]
   refine⟨⟨j+1,hj,fun k hk=>?_⟩,by simp only; omega,?_⟩
   ·rcases Nat.lt_or_eq_of_le (Nat.le_of_lt_succ hk)with h|h
    ·exact g2 k h
    ·rw[h]; exact hd
   ·constructor<;>simp only[go_sem,simprocAttr,decide_eq_true_eq,Int.natCast_add,Int.natCast_one,ltL_app,ltL_flatV,hrr]<;>try ((repeat' apply And.intro)<;>first|rfl|omega|(congr 3; omega)|(congr 2; omega))
 have hany:¬(ks.any fun k=>decide (k=t.text))=true:=by
  rw[List.any_eq_true]
  rintro⟨k,hk,he⟩
  obtain⟨q,hq,rfl⟩:=List.mem_iff_getElem.1 hk
  have:=g2 q (by omega)
  rw[List.getD_eq_getElem?_getD,List.getElem?_eq_getElem hq]at this
  exact this (of_decide_eq_true he)
 rw[if_neg hany]
 simp -implicitDefEqProofs (disch:=omega) only[go_sem,simprocAttr, ↓ix_Tr, ↓ix_T,dropH,inL,encT_snocM]
 refine CallOk.ofI (cn1.at (st:=⟨[],_,_,_,_⟩) 0 1 (by decide) (by simp) (by simp) rfl (fun _ _=>rfl) (by rfl) (by rfl)) rfl rfl rfl rfl ?_
 rintro R1 st' ⟨_,_,rfl,nt9,q9,rfl⟩; simp only at q9 ⊢
 unfold nxtB nxtR
 simp only
 by_cases n1:nE s i=0
 rotate_left
 ·rw[if_pos n1,if_neg n1,decide_eq_false n1]
  simp -implicitDefEqProofs (disch:=omega) only[go_sem,simprocAttr, ↓ix_Tr, ↓ix_T,dropH,inL]
  refine⟨⟨[],[(0,.box 69 (.ptr 1 0::rdC D ⟨t,nQ s i,nP s i,nE s i⟩)),(1,.box 94 [vS s,vI (⟨t,nQ s i,nP s i,nE s i⟩:RS).i])],[],5,1⟩,⟨(vZero,false,⟨t,nQ s i,nP s i,nE s i⟩),vp_bad' n1 rfl rfl vZero_sz,rfl,(fun _=>rfl),(fun h=>by cases h)⟩,?_⟩
  constructor<;>simp only[go_sem,simprocAttr,decide_eq_true_eq,Int.natCast_add,Int.natCast_one,List.cons_append,List.nil_append,ltL_app,ltL_flatV,hrr]<;>try ((repeat' apply And.intro)<;>first|rfl|omega|(congr 3; omega)|(congr 2; omega))
 rw[if_neg (show ¬nE s i≠0 by rw[n1]; decide),if_pos n1,decide_eq_true n1]
 have cd:=rd_need s D ⟨nT s i,nQ s i,place,code⟩ 58
 simp -implicitDefEqProofs (disch:=omega) only[go_sem,simprocAttr, ↓ix_Tr, ↓ix_T,dropH,inL]
 refine CallOk.ofI (cd.at (st:=⟨[],_,_,_,_⟩) 0 1 (by decide) (by simp) (by simp) rfl (fun _ _=>rfl) (by rfl) (by rfl)) rfl rfl rfl rfl ?_
 rintro R1 st' ⟨_,_,rfl,nt8,q8,rfl⟩; simp only at q8 ⊢
 unfold needR
 simp only
 cases n2:(nT s i).sign 58 with
 |false=>
  rw[if_pos rfl,if_neg (show ¬(false=true) by decide)]
  simp -implicitDefEqProofs (disch:=omega) only[go_sem,simprocAttr, ↓ix_Tr, ↓ix_T,dropH,inL]
  refine⟨⟨[],[(0,.box 69 (.ptr 1 0::rdC D ⟨nT s i,nQ s i,(nT s i).at_,1⟩)),(1,.box 94 [vS s,vI (⟨nT s i,nQ s i,(nT s i).at_,1⟩:RS).i])],[],5,1⟩,⟨(vZero,false,⟨nT s i,nQ s i,(nT s i).at_,1⟩),vp_bad' (by decide) rfl rfl vZero_sz,rfl,(fun _=>rfl),(fun h=>by cases h)⟩,?_⟩
  constructor<;>simp only[go_sem,simprocAttr,decide_eq_true_eq,Int.natCast_add,Int.natCast_one,List.cons_append,List.nil_append,ltL_app,ltL_flatV,hrr]<;>try ((repeat' apply And.intro)<;>first|rfl|omega|(congr 3; omega)|(congr 2; omega))
 |true=>
 rw[if_neg (show ¬(true=false) by decide),if_pos rfl]
 have cn2:=rd_next s D ⟨nT s i,nQ s i,place,code⟩ tk2.le (by omega)
 simp -implicitDefEqProofs (disch:=omega) only[go_sem,simprocAttr, ↓ix_Tr, ↓ix_T,dropH,inL]
 refine CallOk.ofI (cn2.at (st:=⟨[],_,_,_,_⟩) 0 1 (by decide) (by simp) (by simp) rfl (fun _ _=>rfl) (by rfl) (by rfl)) rfl rfl rfl rfl ?_
 rintro R1 st' ⟨_,_,rfl,nt7,q7,rfl⟩; simp only at q7 ⊢
 unfold nxtB nxtR
 simp only
 by_cases n3:nE s (nQ s i)=0
 rotate_left
 ·rw[if_pos n3,if_neg n3,decide_eq_false n3]
  simp -implicitDefEqProofs (disch:=omega) only[go_sem,simprocAttr, ↓ix_Tr, ↓ix_T,dropH,inL]
  refine⟨⟨[],[(0,.box 69 (.ptr 1 0::rdC D ⟨nT s i,nQ s (nQ s i),nP s (nQ s i),nE s (nQ s i)⟩)),(1,.box 94 [vS s,vI (⟨nT s i,nQ s (nQ s i),nP s (nQ s i),nE s (nQ s i)⟩:RS).i])],[],5,1⟩,⟨(vZero,false,⟨nT s i,nQ s (nQ s i),nP s (nQ s i),nE s (nQ s i)⟩),vp_bad' n3 rfl rfl vZero_sz,rfl,(fun _=>rfl),(fun h=>by cases h)⟩,?_⟩
  constructor<;>simp only[go_sem,simprocAttr,decide_eq_true_eq,Int.natCast_add,Int.natCast_one,List.cons_append,List.nil_append,ltL_app,ltL_flatV,hrr]<;>try ((repeat' apply And.intro)<;>first|rfl|omega|(congr 3; omega)|(congr 2; omega))
 rw[if_neg (show ¬nE s (nQ s i)≠0 by rw[n3]; decide),if_pos n3,decide_eq_true n3]
 have hv:=hv0 n1 n3
 simp -implicitDefEqProofs (disch:=omega) only[go_sem,simprocAttr, ↓ix_Tr, ↓ix_T,dropH,inL]
 refine CallOk.ofI (item_at_cons hv (st:=⟨[],_,_,_,_⟩) 2 3 4 cap l rest [0] (.row 0 (encT ks++[[PV.val (.string t.text)]])) (.row 0 (encT ks++[[PV.val (.string t.text)]])) [(0,⟨9,1,ks.length+1⟩)] rfl (TokLow.one (by decide)) (by decide) (by simp) (by simp) (by simp) (by simp) (by simp) hcl hcm hrl hrr hlen (by decide) (by simp) (fun e he=>by rw[List.mem_singleton]at he; subst he; exact⟨by simp,rfl⟩) (fun f=>rfl) (by rfl) (by rfl) (by rfl) (by rfl) (by rfl)) rfl rfl rfl rfl ?_
 rintro R1 st' ⟨x,cap',rest',nt5,hx,rfl,q5,r1,r2,r3,r4,rfl⟩
 simp only at q5
 simp -implicitDefEqProofs (disch:=omega) only[go_sem,simprocAttr, ↓ix_Tr, ↓ix_T,dropH,inL,rmK,dropK]
 obtain⟨v,b,r⟩:=x
 cases b with
 |false=>
  refine⟨⟨[],[(0,.box 69 (.ptr 1 0::rdC D r)),(1,.box 94 [vS s,vI r.i])],[],5,1⟩,⟨(v,false,r),hx,rfl,(fun _=>rfl),(fun h=>by cases h)⟩,?_⟩
  constructor<;>simp only[go_sem,simprocAttr,decide_eq_true_eq,Int.natCast_add,Int.natCast_one,List.cons_append,List.nil_append,ltL_app,ltL_flatV,hrr]<;>try ((repeat' apply And.intro)<;>first|rfl|omega|(congr 3; omega)|(congr 2; omega))
 |true=>
  refine⟨⟨[],[(0,.box 69 (.ptr 1 0::rdC D r)),(1,.box 94 [vS s,vI r.i]),(2,.box 33 [vI kd,vB false,vI 0,vS ByteArray.empty,.ms 65 0 (l.length+1) cap',vNil]),(3,.box 26 [.row 0 (encT (ks++[t.text]))]),(65,.box 33 (flatV (l++[v])++rest'))],[(0,⟨9,1,ks.length+1⟩)],66,1⟩,⟨(v,true,r),hx,rfl,(fun h=>by cases h),fun _=>⟨cap',rest',r1,r2,r3,r4,rfl⟩⟩,?_⟩
  constructor<;>simp only[go_sem,simprocAttr,decide_eq_true_eq,ltL_app,ltL_flatV,r4,encT_snocM]<;>try ((repeat' apply And.intro)<;>first|rfl|omega|(congr 3; omega)|(congr 2; omega))
end Go.Proofs.YtcgmpcbkndpmbaaGreatDoor

end
section
open Go Go.Proofs Go.Pw Go.RowKit
namespace Go.Proofs.YtcgmpcbkndpmbaaGreatDoor
set_option maxRecDepth 4000
set_option linter.unusedVariables false
set_option linter.unusedSimpArgs false
set_option maxHeartbeats 4000000 in
theorem member_at_nil {s:ByteArray}(hs:s.size<=20000){D m kd:Int}{f:Nat->An}{p:Nat}(hp:p<=s.size)(h1:nE s p=0){t:Tk}{i:Nat}(e1:t=nT s p)(e2:i=nQ s p){place code:Int}
  (hv0:nE s (nQ s p)=0->nE s (nQ s (nQ s p))=0->VOk 29 s D m ⟨nT s (nQ s (nQ s p)),nQ s (nQ s (nQ s p)),place,code⟩ (fin s (f (nQ s (nQ s p))))) (iv ik:Nat) {st:PS} (hnd:([0,1,iv,ik]:List Nat).Nodup) (h0n:0<st.nx) (h1n:1<st.nx) (hvn:iv<st.nx) (hkn:ik<st.nx)
  (o0:lkp st.heap 0=some (.box 69 (.ptr 1 0::rdC D ⟨t,i,place,code⟩))) (o1:lkp st.heap 1=some (.box 94 [vS s,vI i])) (o2:lkp st.heap iv=some (.box 33 [vI kd,vB false,vI 0,vS ByteArray.empty,vNil,vNil])) (o3:lkp st.heap ik=some (.box 26 [vNil])) :
  OkI Tryz.prog 74 [.ptr 0 0,vI m,.ptr ik 0,.ptr iv 4] st
   (fun R st'=>∃(x:V×Bool×RS) (nt':Nat),VP s (memB s f p ([]:List ByteArray)) x/\R=vB x.2.1/\st.nt<=nt' /\
    (x.2.1=false->∃nx',st.nx<=nx'/\st'=⟨st.env,[(0,.box 69 (.ptr 1 0::rdC D x.2.2)),(1,.box 94 [vS s,vI x.2.2.i])]++dropH [0,1,iv,ik] st.heap,dropK [] st.toks,nx',nt'⟩) /\
    (x.2.1=true->∃(cap':Nat) (rest':List PV),0+1<=cap'/\cap'<=maxLen/\rest'.length=(cap'-(0+1))*6/\(∀x y,PV.ltL x y rest'=true)/\11+st.nt<nt' /\
     st'=⟨st.env,[(0,.box 69 (.ptr 1 0::rdC D x.2.2)),(1,.box 94 [vS s,vI x.2.2.i]),(iv,.box 33 [vI kd,vB false,vI 0,vS ByteArray.empty,.ms (60+st.nx) 0 (0+1) cap',vNil]),(ik,.box 26 [.row (11+st.nt) (encT (([]:List ByteArray)++[t.text]))]),(60+st.nx,.box 33 (flatV ([]++[x.1])++rest'))]++dropH [0,1,iv,ik] st.heap,[(11+st.nt,⟨9,1,0+1⟩)]++dropK [] st.toks,61+st.nx,nt'⟩)):=by
 have hlt:∀j∈([0,1,iv,ik]:List Nat),j<st.nx:=fun j hj=>by
  simp only[List.mem_cons,List.not_mem_nil,or_false]at hj
  rcases hj with rfl|rfl|rfl|rfl<;>assumption
 have f0:rnF [0,1,iv,ik] st.nx 0=0:=rfl
 have f1:rnF [0,1,iv,ik] st.nx 1=1:=rfl
 have f2:rnF [0,1,iv,ik] st.nx 2=iv:=rfl
 have f3:rnF [0,1,iv,ik] st.nx 3=ik:=rfl
 skip
 have fN:rnF [0,1,iv,ik] st.nx 64=60+st.nx:=rnF_high (l:=[0,1,iv,ik]) 64 (by simp)
 have gN:rnF [] st.nt 11=11+st.nt:=rnF_high (l:=[]) 11 (by simp)
 have base:=rd_member_nil s hs D m kd f p hp h1 t i e1 e2 place code hv0
 refine OkI.mono' (OkI.frameT [0,1,iv,ik] [] base hnd hlt (by simp) (fun j hj=>by cases hj) (fun e he=>?_) (fun e he=>?_) ?_ ?_) ?_
 ·simp only[List.mem_cons,List.not_mem_nil,or_false]at he
  rcases he with rfl|rfl|rfl|rfl
  ·exact⟨by simp,by simp[PObj.lt,PV.ltL,PV.lt],by rw[f0,o0]; rfl⟩
  ·exact⟨by simp,by simp[PObj.lt,PV.ltL,PV.lt],by rw[f1,o1]; rfl⟩
  ·exact⟨by simp,by simp[PObj.lt,PV.ltL,PV.lt],by rw[f2,o2]; rfl⟩
  ·exact⟨by simp,by simp[PObj.lt,PV.ltL,PV.lt],by rw[f3,o3]; rfl⟩
 ·cases he
 ·simp[PV.ltL,PV.lt]
 ·simp only[PV.rmL,PV.rm,f0,f2,f3]
 ·rintro R st' ⟨R0,s0,⟨x,hx,rfl,hF,hT⟩,rfl,rfl⟩
  refine⟨x,s0.nt-([]:List Nat).length+st.nt,hx,rfl,by omega,fun hb=>?_,fun hb=>?_⟩
  ·refine⟨s0.nx-([0,1,iv,ik]:List Nat).length+st.nx,by omega,?_⟩
   rw[hF hb]
   simp only[rmH,PObj.rm,PV.rmL,PV.rm,f0,f1,rmK,List.nil_append]
  ·obtain⟨cap',rest',q1,q2,q3,q4,e⟩:=hT hb
   have fz:∀f g,PV.rmL f g (flatV ([]++[x.1])++rest')=flatV ([]++[x.1])++rest':=fun f g=>rmL_frz _ (by rw[ltL_app,ltL_flatV,q4]; rfl)
   refine⟨cap',rest',q1,q2,q3,q4,?_,?_⟩
   ·rw[e]; simp only[List.length_cons,List.length_nil]; omega
   ·rw[e]
    simp only[rmH,rmK,PObj.rm,PV.rmL,PV.rm,f0,f1,f2,f3,fN,gN,fz,List.length_cons,List.length_nil]
    try rfl
set_option maxHeartbeats 4000000 in
theorem member_at_cons {s:ByteArray}(hs:s.size<=20000){D m kd:Int}{f:Nat->An}{p:Nat}(hp:p<=s.size)(h1:nE s p=0){t:Tk}{i:Nat}(e1:t=nT s p)(e2:i=nQ s p){place code:Int}
  (hv0:nE s (nQ s p)=0->nE s (nQ s (nQ s p))=0->VOk 29 s D m ⟨nT s (nQ s (nQ s p)),nQ s (nQ s (nQ s p)),place,code⟩ (fin s (f (nQ s (nQ s p))))) (iv ik ii cap kt:Nat) (l:List V) (rest:List PV) (ks:List ByteArray) {st:PS} (hnd:([0,1,iv,ik,ii]:List Nat).Nodup) (h0n:0<st.nx) (h1n:1<st.nx) (hvn:iv<st.nx) (hkn:ik<st.nx) (hin:ii<st.nx) (hktn:kt<st.nt) (hcl:l.length<=cap) (hcm:cap<=maxLen) (hrl:rest.length=(cap-l.length)*6) (hrr:∀x y,PV.ltL x y rest=true) (hlen:l.length<=1000000) (hks:ks.length<=1000000) (ot:lkp st.toks kt=some ⟨9,1,ks.length⟩)
  (o0:lkp st.heap 0=some (.box 69 (.ptr 1 0::rdC D ⟨t,i,place,code⟩))) (o1:lkp st.heap 1=some (.box 94 [vS s,vI i])) (o2:lkp st.heap iv=some (.box 33 [vI kd,vB false,vI 0,vS ByteArray.empty,.ms ii 0 l.length cap,vNil])) (o3:lkp st.heap ik=some (.box 26 [.row kt (encT ks)])) (o4:lkp st.heap ii=some (.box 33 (flatV l++rest))) :
  OkI Tryz.prog 74 [.ptr 0 0,vI m,.ptr ik 0,.ptr iv 4] st
   (fun R st'=>∃(x:V×Bool×RS) (nt':Nat),VP s (memB s f p ks) x/\R=vB x.2.1/\st.nt<=nt' /\
    (x.2.1=false->∃nx',st.nx<=nx'/\st'=⟨st.env,[(0,.box 69 (.ptr 1 0::rdC D x.2.2)),(1,.box 94 [vS s,vI x.2.2.i])]++dropH [0,1,iv,ik,ii] st.heap,dropK [kt] st.toks,nx',nt'⟩) /\
    (x.2.1=true->∃(cap':Nat) (rest':List PV),l.length+1<=cap'/\cap'<=maxLen/\rest'.length=(cap'-(l.length+1))*6/\(∀x y,PV.ltL x y rest'=true)/\kt<nt' /\
     st'=⟨st.env,[(0,.box 69 (.ptr 1 0::rdC D x.2.2)),(1,.box 94 [vS s,vI x.2.2.i]),(iv,.box 33 [vI kd,vB false,vI 0,vS ByteArray.empty,.ms (60+st.nx) 0 (l.length+1) cap',vNil]),(ik,.box 26 [.row (kt) (encT (ks++[t.text]))]),(60+st.nx,.box 33 (flatV (l++[x.1])++rest'))]++dropH [0,1,iv,ik,ii] st.heap,[(kt,⟨9,1,ks.length+1⟩)]++dropK [kt] st.toks,61+st.nx,nt'⟩)):=by
 have hlt:∀j∈([0,1,iv,ik,ii]:List Nat),j<st.nx:=fun j hj=>by
  simp only[List.mem_cons,List.not_mem_nil,or_false]at hj
  rcases hj with rfl|rfl|rfl|rfl|rfl<;>assumption
 have f0:rnF [0,1,iv,ik,ii] st.nx 0=0:=rfl
 have f1:rnF [0,1,iv,ik,ii] st.nx 1=1:=rfl
 have f2:rnF [0,1,iv,ik,ii] st.nx 2=iv:=rfl
 have f3:rnF [0,1,iv,ik,ii] st.nx 3=ik:=rfl
 have f4:rnF [0,1,iv,ik,ii] st.nx 4=ii:=rfl
 have fN:rnF [0,1,iv,ik,ii] st.nx 65=60+st.nx:=rnF_high (l:=[0,1,iv,ik,ii]) 65 (by simp)
 have gN:rnF [kt] st.nt 0=kt:=rfl
 have base:=rd_member_cons s hs D m kd f p hp h1 t i e1 e2 place code hv0 cap l rest ks hcl hcm hrl hrr hlen hks
 refine OkI.mono' (OkI.frameT [0,1,iv,ik,ii] [kt] base hnd hlt (by simp) (fun j hj=>by rw[List.mem_singleton]at hj; subst hj; exact hktn) (fun e he=>?_) (fun e he=>?_) ?_ ?_) ?_
 ·simp only[List.mem_cons,List.not_mem_nil,or_false]at he
  rcases he with rfl|rfl|rfl|rfl|rfl
  ·exact⟨by simp,by simp[PObj.lt,PV.ltL,PV.lt],by rw[f0,o0]; rfl⟩
  ·exact⟨by simp,by simp[PObj.lt,PV.ltL,PV.lt],by rw[f1,o1]; rfl⟩
  ·exact⟨by simp,by simp[PObj.lt,PV.ltL,PV.lt],by rw[f2,o2]; rfl⟩
  ·exact⟨by simp,by simp[PObj.lt,PV.ltL,PV.lt],by rw[f3,o3]; rfl⟩
  ·exact⟨by simp,by simp only[PObj.lt]; rw[ltL_app,ltL_flatV,hrr]; rfl,by rw[f4,o4,PObj.rm,rmL_frz _ (by rw[ltL_app,ltL_flatV,hrr]; rfl)]⟩
 ·rw[List.mem_singleton]at he
  subst he
  exact⟨by simp,ot⟩
 ·simp[PV.ltL,PV.lt]
 ·simp only[PV.rmL,PV.rm,f0,f2,f3]
 ·rintro R st' ⟨R0,s0,⟨x,hx,rfl,hF,hT⟩,rfl,rfl⟩
  refine⟨x,s0.nt-([kt]:List Nat).length+st.nt,hx,rfl,by omega,fun hb=>?_,fun hb=>?_⟩
  ·refine⟨s0.nx-([0,1,iv,ik,ii]:List Nat).length+st.nx,by omega,?_⟩
   rw[hF hb]
   simp only[rmH,PObj.rm,PV.rmL,PV.rm,f0,f1,rmK,List.nil_append]
  ·obtain⟨cap',rest',q1,q2,q3,q4,e⟩:=hT hb
   have fz:∀f g,PV.rmL f g (flatV (l++[x.1])++rest')=flatV (l++[x.1])++rest':=fun f g=>rmL_frz _ (by rw[ltL_app,ltL_flatV,q4]; rfl)
   refine⟨cap',rest',q1,q2,q3,q4,?_,?_⟩
   ·rw[e]; simp only[List.length_cons,List.length_nil]; omega
   ·rw[e]
    simp only[rmH,rmK,PObj.rm,PV.rmL,PV.rm,f0,f1,f2,f3,fN,gN,fz,List.length_cons,List.length_nil]
    try rfl
end Go.Proofs.YtcgmpcbkndpmbaaGreatDoor

end
section
open Go Go.Proofs Go.Pw Go.RowKit
namespace Go.Proofs.YtcgmpcbkndpmbaaGreatDoor
set_option maxRecDepth 4000
set_option linter.unusedVariables false
set_option linter.unusedSimpArgs false
attribute [local go_sem] Nat.le_refl Tryz.results34 Tryz.results36 Tryz.results40 Tryz.results56 Tryz.results78 Tryz.results99
def isB (s:ByteArray)(i:Nat)(c:Int):Bool:=decide (i<s.size)&&decide (bt s i=c)
theorem hasF_mem (s:ByteArray)(l:List UInt8)(i:Nat):hasF s ⟨l.toArray⟩ i=(decide (i<s.size)&&l.contains (s.data.toList.getD i 0)):=by
 unfold hasF ixB
 rw[Lib.contains_iff_indexByte]
 have:(bt s i).toNat.toUInt8=s.data.toList.getD i 0:=by
  unfold bt
  simp only[Int.toNat_natCast]
  exact UInt8.ofNat_toNat
 rw[this]
theorem isB_u8 (s:ByteArray)(i:Nat)(c:UInt8):isB s i c.toNat=(decide (i<s.size)&&decide (s.data.toList.getD i 0=c)):=by
 unfold isB bt
 simp only[Int.toNat_natCast]
 congr 1
 apply decide_eq_decide.2
 rw[Int.ofNat_inj]
 exact UInt8.toNat_inj
theorem hasF_cons (s:ByteArray)(c:UInt8)(l:List UInt8)(i:Nat):hasF s ⟨(c::l).toArray⟩ i=(isB s i c.toNat||hasF s ⟨l.toArray⟩ i):=by
 rw[hasF_mem,hasF_mem,isB_u8,List.contains_cons,<-Bool.and_or_distrib_left]
 rfl
theorem hasF_none (s:ByteArray)(i:Nat):hasF s ⟨([]:List UInt8).toArray⟩ i=false:=by
 rw[hasF_mem]; simp
theorem isB_hasF (s:ByteArray)(c:UInt8)(i:Nat):isB s i c.toNat=hasF s ⟨#[c]⟩ i:=by
 have:=hasF_cons s c [] i
 rw[hasF_none,Bool.or_false]at this
 exact this.symm
theorem hasF_bl (s:ByteArray)(i:Nat):hasF s blS i=(isB s i 32||isB s i 9||isB s i 10||isB s i 13):=by
 have h:=hasF_cons s 32 [9,10,13] i
 rw[hasF_cons s 9,hasF_cons s 10,hasF_cons s 13,hasF_none,Bool.or_false]at h
 show hasF s ⟨[32,9,10,13].toArray⟩ i=_
 rw[h,Bool.or_assoc,Bool.or_assoc]
 rfl
theorem hasF_dg (s:ByteArray)(i:Nat):hasF s dgS i=(decide (i<s.size)&&decide (48<=bt s i/\bt s i<=57)):=by
 have f:∀c:Fin 256,([48,49,50,51,52,53,54,55,56,57]:List UInt8).contains c.1.toUInt8=decide (48<=(c.1:Int)/\(c.1:Int)<=57):=by decide +kernel
 have h:=f ⟨(s.data.toList.getD i 0).toNat,UInt8.toNat_lt _⟩
 show hasF s ⟨[48,49,50,51,52,53,54,55,56,57].toArray⟩ i=_
 rw[hasF_mem]
 have e:(s.data.toList.getD i 0).toNat.toUInt8=s.data.toList.getD i 0:=UInt8.ofNat_toNat
 simp only[e]at h
 rw[h]
 rfl
set_option maxHeartbeats 4000000 in
theorem ris_ok5 (s:ByteArray)(i:Nat)(c:Int)(hs:s.size<=1000000):Ok Tryz.prog 40 [vS s,vI i,vC c] (vB (isB s i c)):=by
 refine Ok.of_pwp (by kernel_rfl) Tryz.func40 rfl (by kernel_rfl) (by kernel_rfl) ?_
 by_cases h:i<s.size
 ·unfold isB
  rw[decide_eq_true h,Bool.true_and]
  simp -implicitDefEqProofs (disch:=omega) only[go_sem,simprocAttr]
 ·unfold isB
  rw[decide_eq_false h,Bool.false_and]
  simp -implicitDefEqProofs (disch:=omega) only[go_sem,simprocAttr]
set_option maxHeartbeats 4000000 in
theorem rdigit_ok (s:ByteArray)(i:Nat)(hs:s.size<=1000000):Ok Tryz.prog 36 [vS s,vI i] (vB (hasF s dgS i)):=by
 refine Ok.of_pwp (by kernel_rfl) Tryz.func36 rfl (by kernel_rfl) (by kernel_rfl) ?_
 rw[hasF_dg]
 by_cases h:i<s.size
 ·rw[decide_eq_true h,Bool.true_and]
  by_cases h1:48<=bt s i
  ·have e:decide (48<=bt s i/\bt s i<=57)=decide (bt s i<=57):=decide_eq_decide.2 ⟨fun h=>h.2,fun h=>⟨h1,h⟩⟩
   rw[e]
   simp -implicitDefEqProofs (disch:=omega) only[go_sem,simprocAttr,decide_eq_true h1]
  ·rw[decide_eq_false (show ¬(48<=bt s i/\bt s i<=57) by omega)]
   simp -implicitDefEqProofs (disch:=omega) only[go_sem,simprocAttr,decide_eq_false h1]
 ·rw[decide_eq_false h,Bool.false_and]
  simp -implicitDefEqProofs (disch:=omega) only[go_sem,simprocAttr]
set_option maxHeartbeats 8000000 in
theorem rblanks_ok (s:ByteArray)(i:Nat)(hs:s.size<=1000000):Ok Tryz.prog 34 [vS s,vI i] (vI (passF s blS i)):=by
 refine Ok.of_pwp (by kernel_rfl) Tryz.func34 rfl (by kernel_rfl) (by kernel_rfl) ?_
 simp -implicitDefEqProofs (disch:=omega) only[go_sem,simprocAttr]
 refine p_loop (ι:={ j:Nat // passF s blS j=passF s blS i/\j<=s.size+i }) (fun p=>⟨[(1,vI p.1),(0,vS s)],[],[],0,0⟩) (fun p=>s.size+i-p.1) ⟨i,rfl,by omega⟩ ?_ ?_
 ·constructor<;>simp only[go_sem,simprocAttr,decide_eq_true_eq,Int.natCast_add,Int.natCast_one]<;>try ((repeat' apply And.intro)<;>first|rfl|omega|(congr 3; omega)|(congr 2; omega))
 ·rintro⟨j,h,hj⟩
  simp only at h hj ⊢
  have c0:=ris_ok5 s j 32 hs
  have c1:=ris_ok5 s j 9 hs
  have c2:=ris_ok5 s j 10 hs
  have c3:=ris_ok5 s j 13 hs
  have hh:=hasF_bl s j
  have next:hasF s blS j=true->j<s.size/\passF s blS (j+1)=passF s blS i/\j+1<=s.size+i/\s.size+i-(j+1)<s.size+i-j:=fun h'=>by
   have:=hasF_lt h'
   rw[passF_t h']at h
   exact⟨this,h,by omega,by omega⟩
  simp -implicitDefEqProofs (disch:=omega) only[go_sem,simprocAttr]
  with_reducible refine CallOk.of c0 rfl ?_
  cases h0:isB s j 32 with
  |true=>
   obtain⟨n0,n1,n2,n3⟩:=next (by rw[hh,h0]; rfl)
   simp -implicitDefEqProofs (disch:=omega) only[go_sem,simprocAttr,h0]
   refine⟨⟨j+1,n1,n2⟩,n3,?_⟩
   constructor<;>simp only[go_sem,simprocAttr,decide_eq_true_eq,Int.natCast_add,Int.natCast_one]<;>try ((repeat' apply And.intro)<;>first|rfl|omega|(congr 3; omega)|(congr 2; omega))
  |false=>
  simp -implicitDefEqProofs (disch:=omega) only[go_sem,simprocAttr,h0]
  with_reducible refine CallOk.of c1 rfl ?_
  cases h1:isB s j 9 with
  |true=>
   obtain⟨n0,n1,n2,n3⟩:=next (by rw[hh,h0,h1]; rfl)
   simp -implicitDefEqProofs (disch:=omega) only[go_sem,simprocAttr,h1]
   refine⟨⟨j+1,n1,n2⟩,n3,?_⟩
   constructor<;>simp only[go_sem,simprocAttr,decide_eq_true_eq,Int.natCast_add,Int.natCast_one]<;>try ((repeat' apply And.intro)<;>first|rfl|omega|(congr 3; omega)|(congr 2; omega))
  |false=>
  simp -implicitDefEqProofs (disch:=omega) only[go_sem,simprocAttr,h1]
  with_reducible refine CallOk.of c2 rfl ?_
  cases h2:isB s j 10 with
  |true=>
   obtain⟨n0,n1,n2,n3⟩:=next (by rw[hh,h0,h1,h2]; rfl)
   simp -implicitDefEqProofs (disch:=omega) only[go_sem,simprocAttr,h2]
   refine⟨⟨j+1,n1,n2⟩,n3,?_⟩
   constructor<;>simp only[go_sem,simprocAttr,decide_eq_true_eq,Int.natCast_add,Int.natCast_one]<;>try ((repeat' apply And.intro)<;>first|rfl|omega|(congr 3; omega)|(congr 2; omega))
  |false=>
  simp -implicitDefEqProofs (disch:=omega) only[go_sem,simprocAttr,h2]
  with_reducible refine CallOk.of c3 rfl ?_
  cases h3:isB s j 13 with
  |true=>
   obtain⟨n0,n1,n2,n3⟩:=next (by rw[hh,h0,h1,h2,h3]; rfl)
   simp -implicitDefEqProofs (disch:=omega) only[go_sem,simprocAttr,h3]
   refine⟨⟨j+1,n1,n2⟩,n3,?_⟩
   constructor<;>simp only[go_sem,simprocAttr,decide_eq_true_eq,Int.natCast_add,Int.natCast_one]<;>try ((repeat' apply And.intro)<;>first|rfl|omega|(congr 3; omega)|(congr 2; omega))
  |false=>
   have hf:hasF s blS j=false:=by rw[hh,h0,h1,h2,h3]; rfl
   rw[passF_f hf]at h
   simp -implicitDefEqProofs (disch:=omega) only[go_sem,simprocAttr,h3,h]
set_option maxHeartbeats 8000000 in
theorem rdigits_ok (s:ByteArray)(i:Nat)(hs:s.size<=1000000)(hd:hasF s dgS i=true):Ok Tryz.prog 56 [vS s,vI i] (vI (passF s dgS i)):=by
 have cd:=rdigit_ok s i hs
 refine Ok.of_pwp (by kernel_rfl) Tryz.func56 rfl (by kernel_rfl) (by kernel_rfl) ?_
 simp -implicitDefEqProofs (disch:=omega) only[go_sem,simprocAttr]
 with_reducible refine CallOk.of cd rfl ?_
 simp -implicitDefEqProofs (disch:=omega) only[go_sem,simprocAttr,hd]
 refine p_loop (ι:={ j:Nat // passF s dgS j=passF s dgS i/\j<=s.size+i }) (fun p=>⟨[(1,vI p.1),(0,vS s)],[],[],0,0⟩) (fun p=>s.size+i-p.1) ⟨i,rfl,by omega⟩ ?_ ?_
 ·constructor<;>simp only[go_sem,simprocAttr,decide_eq_true_eq,Int.natCast_add,Int.natCast_one]<;>try ((repeat' apply And.intro)<;>first|rfl|omega|(congr 3; omega)|(congr 2; omega))
 ·rintro⟨j,h,hj⟩
  simp only at h hj ⊢
  have c0:=rdigit_ok s j hs
  simp -implicitDefEqProofs (disch:=omega) only[go_sem,simprocAttr]
  with_reducible refine CallOk.of c0 rfl ?_
  cases h0:hasF s dgS j with
  |true=>
   have:=hasF_lt h0
   rw[passF_t h0]at h
   simp -implicitDefEqProofs (disch:=omega) only[go_sem,simprocAttr,h0]
   refine⟨⟨j+1,h,by omega⟩,by simp only; omega,?_⟩
   constructor<;>simp only[go_sem,simprocAttr,decide_eq_true_eq,Int.natCast_add,Int.natCast_one]<;>try ((repeat' apply And.intro)<;>first|rfl|omega|(congr 3; omega)|(congr 2; omega))
  |false=>
   rw[passF_f h0]at h
   simp -implicitDefEqProofs (disch:=omega) only[go_sem,simprocAttr,h0,h]
def hexN (s:ByteArray)(i:Nat):Int:=if hasF s hxS i=true then(ixB hxS (bt s i)).tmod 16 else -1
abbrev hsS:ByteArray:=⟨#[48,49,50,51,52,53,54,55,56,57,97,98,99,100,101,102]⟩
abbrev hgS:ByteArray:=⟨#[48,49,50,51,52,53,54,55,56,57,65,66,67,68,69,70]⟩
def hexV (b:Nat):Int:=if 0<=Lib.indexByte hxS.data.toList b.toUInt8 then(Lib.indexByte hxS.data.toList b.toUInt8).tmod 16 else -1
theorem hexV_yes:∀b:Fin 256,∀i:Fin 16,((b.1:Int)=bt hsS i.1∨(b.1:Int)=bt hgS i.1)->hexV b.1=i.1:=by decide +kernel
theorem hexV_no:∀b:Fin 256,(∀i:Fin 16,¬(b.1:Int)=bt hsS i.1/\¬(b.1:Int)=bt hgS i.1)->hexV b.1 = -1:=by decide +kernel
theorem hexN_V (s:ByteArray)(i:Nat)(h:i<s.size):hexN s i=hexV (bt s i).toNat:=by
 unfold hexN hexV hasF ixB
 rw[decide_eq_true h,Bool.true_and]
 simp only[decide_eq_true_eq]
theorem szhs:(((#[48,49,50,51,52,53,54,55,56,57,97,98,99,100,101,102]:Array UInt8).size:Nat):Int)=16:=rfl
theorem szhg:(((#[48,49,50,51,52,53,54,55,56,57,65,66,67,68,69,70]:Array UInt8).size:Nat):Int)=16:=rfl
set_option maxHeartbeats 8000000 in
theorem rhex_ok (s:ByteArray)(i:Nat)(hs:s.size<=1000000):Ok Tryz.prog 99 [vS s,vI i] (vI (hexN s i)):=by
 refine Ok.of_pwp (by kernel_rfl) Tryz.func99 rfl (by kernel_rfl) (by kernel_rfl) ?_
 simp -implicitDefEqProofs (disch:=omega) only[go_sem,simprocAttr,szhs,szhg]
 refine p_loop (ι:={ j:Nat // j<=16/\∀k,k<j->isB s i (bt hsS k)=false/\isB s i (bt hgS k)=false }) (fun p=>⟨[(7,vI p.1),(0,vS s),(1,vI i),(5,vS hsS),(6,vS hgS)],[],[],0,0⟩) (fun p=>16-p.1) ⟨0,by omega,fun k h=>by omega⟩ ?_ ?_
 ·constructor<;>simp only[go_sem,simprocAttr,decide_eq_true_eq,Int.natCast_zero]<;>try ((repeat' apply And.intro)<;>first|rfl|omega|(congr 3; omega)|(congr 2; omega))
 ·rintro⟨j,h1,h2⟩
  simp only at h1 h2 ⊢
  by_cases hj:j<16
  ·have c0:=ris_ok5 s i (bt hsS j) hs
   have c1:=ris_ok5 s i (bt hgS j) hs
   have yes:isB s i (bt hsS j)=true∨isB s i (bt hgS j)=true->hexN s i=j:=fun h=>by
    have hi:i<s.size:=by unfold isB at h; simp at h; omega
    rw[hexN_V s i hi]
    have hb:=bt_range s i
    have:=hexV_yes ⟨(bt s i).toNat,by omega⟩ ⟨j,hj⟩
    simp only[Int.toNat_of_nonneg hb.1]at this
    refine this ?_
    unfold isB at h
    simp at h
    omega
   simp -implicitDefEqProofs (disch:=omega) only[go_sem,simprocAttr,szhs,szhg]
   with_reducible refine CallOk.of c0 rfl ?_
   cases h3:isB s i (bt hsS j)with
   |true=>
    rw[yes (.inl h3)]
    simp -implicitDefEqProofs (disch:=omega) only[go_sem,simprocAttr,szhs,szhg,h3]
   |false=>
   simp -implicitDefEqProofs (disch:=omega) only[go_sem,simprocAttr,szhs,szhg,h3]
   with_reducible refine CallOk.of c1 rfl ?_
   cases h4:isB s i (bt hgS j)with
   |true=>
    rw[yes (.inr h4)]
    simp -implicitDefEqProofs (disch:=omega) only[go_sem,simprocAttr,szhs,szhg,h4]
   |false=>
    simp -implicitDefEqProofs (disch:=omega) only[go_sem,simprocAttr,szhs,szhg,h4]
    refine⟨⟨j+1,hj,fun k hk=>?_⟩,by simp only; omega,?_⟩
    ·rcases Nat.lt_or_eq_of_le (Nat.le_of_lt_succ hk)with h|h
     ·exact h2 k h
     ·rw[h]; exact⟨h3,h4⟩
    ·constructor<;>simp only[go_sem,simprocAttr,decide_eq_true_eq,Int.natCast_add,Int.natCast_one]<;>try ((repeat' apply And.intro)<;>first|rfl|omega|(congr 3; omega)|(congr 2; omega))
  ·have hj16:j=16:=by omega
   subst hj16
   have no:hexN s i = -1:=by
    by_cases hi:i<s.size
    ·rw[hexN_V s i hi]
     have hb:=bt_range s i
     refine hexV_no ⟨(bt s i).toNat,by omega⟩ (fun k=>?_)
     have:=h2 k.1 k.2
     unfold isB at this
     rw[decide_eq_true hi,Bool.true_and,Bool.true_and]at this
     simp only[decide_eq_false_iff_not]at this
     rw[Int.toNat_of_nonneg hb.1]
     exact this
    ·unfold hexN hasF
     rw[decide_eq_false hi,Bool.false_and]
     rfl
   rw[no]
   simp -implicitDefEqProofs (disch:=omega) only[go_sem,simprocAttr,szhs,szhg]
def fourR (s:ByteArray)(i:Nat):Int×Nat:=if(hexF s 4 i 0).2.1=true then((hexF s 4 i 0).1,(hexF s 4 i 0).2.2) else(-1,(hexF s 4 i 0).2.2)
set_option maxHeartbeats 8000000 in
theorem rfour_ok (s:ByteArray)(i:Nat)(hs:s.size<=1000000)(hi:i<=2000000):Ok Tryz.prog 78 [vS s,vI i] (.tup [vI (fourR s i).1,vI (fourR s i).2]):=by
 refine Ok.of_pwp (by kernel_rfl) Tryz.func78 rfl (by kernel_rfl) (by kernel_rfl) ?_
 unfold fourR
 simp -implicitDefEqProofs (disch:=omega) only[go_sem,simprocAttr]
 refine p_loop (ι:={ p:Nat×Nat×Int // p.1<=4/\p.2.1<=i+p.1/\0<=p.2.2/\p.2.2<16^p.1/\hexF s (4-p.1) p.2.1 p.2.2=hexF s 4 i 0 }) (fun p=>⟨[(7,vI p.1.1),(6,vI p.1.2.2),(1,vI p.1.2.1),(0,vS s)],[],[],0,0⟩) (fun p=>4-p.1.1) ⟨(0,i,0),by simp,by simp,by simp,by simp,rfl⟩ ?_ ?_
 ·constructor<;>simp only[go_sem,simprocAttr,decide_eq_true_eq,Int.natCast_zero]<;>try ((repeat' apply And.intro)<;>first|rfl|omega|(congr 3; omega)|(congr 2; omega))
 ·rintro⟨⟨k,j,n⟩,h0,h1,h2,h3,h4⟩
  simp only at h0 h1 h2 h3 h4 ⊢
  have h6:(16:Int)^k<=65536:=by
   have:k=0∨k=1∨k=2∨k=3∨k=4:=by omega
   rcases this with rfl|rfl|rfl|rfl|rfl<;>decide
  by_cases hk:k<4
  ·have c0:=rhex_ok s j hs
   rw[show 4-k=(4-(k+1))+1 by omega,hexF]at h4
   cases hh:hasF s hxS j with
   |true=>
    rw[if_pos hh]at h4
    have hx:hexN s j=(ixB hxS (bt s j)).tmod 16:=if_pos hh
    rw[hx]at c0
    have hz:=hasF_ix hh
    have r1:=Int.tmod_nonneg 16 hz
    have r2:=Int.tmod_lt_of_pos (ixB hxS (bt s j)) (show(0:Int)<16 by decide)
    generalize (ixB hxS (bt s j)).tmod 16=d at *
    simp -implicitDefEqProofs (disch:=omega) only[go_sem,simprocAttr]
    with_reducible refine CallOk.of c0 rfl ?_
    simp -implicitDefEqProofs (disch:=omega) only[go_sem,simprocAttr]
    refine⟨⟨(k+1,j+1,n*16+d),hk,by simp only; omega,by simp only; omega,?_,h4⟩,by simp only; omega,?_⟩
    ·simp only[Int.pow_succ]; omega
    ·constructor<;>simp only[go_sem,simprocAttr,decide_eq_true_eq,Int.natCast_add,Int.natCast_one]<;>try ((repeat' apply And.intro)<;>first|rfl|omega|(congr 3; omega)|(congr 2; omega))
   |false=>
    rw[if_neg (by rw[hh]; decide)]at h4
    have hx:hexN s j = -1:=by unfold hexN; rw[hh]; rfl
    rw[hx]at c0
    rw[<-h4]
    simp -implicitDefEqProofs (disch:=omega) only[go_sem,simprocAttr]
    with_reducible refine CallOk.of c0 rfl ?_
    simp -implicitDefEqProofs (disch:=omega) only[go_sem,simprocAttr]
  ·have hk4:k=4:=by omega
   subst hk4
   rw[show 4-4=0 from rfl,hexF]at h4
   rw[<-h4]
   simp -implicitDefEqProofs (disch:=omega) only[go_sem,simprocAttr]
end Go.Proofs.YtcgmpcbkndpmbaaGreatDoor

end
section
open Go Go.Proofs Go.Pw Go.RowKit
namespace Go.Proofs.YtcgmpcbkndpmbaaGreatDoor
set_option maxRecDepth 4000
set_option linter.unusedVariables false
set_option linter.unusedSimpArgs false
attribute [local go_sem] Nat.le_refl Tryz.results37 Tryz.results55
theorem ltS_at:∀b:Fin 256,∀i:Fin 8,(b.1:Int)=bt ltS i.1->(∀j:Fin 8,j.1<i.1->¬(b.1:Int)=bt ltS j.1)->Lib.indexByte ltS.data.toList b.1.toUInt8=i.1:=by decide +kernel
theorem ltS_none:∀b:Fin 256,(∀j:Fin 8,¬(b.1:Int)=bt ltS j.1)->Lib.indexByte ltS.data.toList b.1.toUInt8 = -1:=by decide +kernel
theorem szlt:(((#[34,92,47,98,102,110,114,116]:Array UInt8).size:Nat):Int)=8:=rfl
theorem szpt:(((#[34,92,47,8,12,10,13,9]:Array UInt8).size:Nat):Int)=8:=rfl
theorem isB_bs (s:ByteArray)(i:Nat):isB s i 92=hasF s bsS i:=isB_hasF s 92 i
theorem isB_u (s:ByteArray)(i:Nat):isB s i 117=hasF s uS i:=isB_hasF s 117 i
set_option maxHeartbeats 16000000 in
theorem rescape_ok (s:ByteArray)(i:Nat)(hi:i<s.size)(hs:s.size<=1000000):Ok Tryz.prog 55 [vS s,vI i] (.tup [vI (escP s i).1,vI (escP s i).2.2,vI (escP s i).2.1]):=by
 refine Ok.of_pwp (by kernel_rfl) Tryz.func55 rfl (by kernel_rfl) (by kernel_rfl) ?_
 generalize hX:escP s i=X
 simp -implicitDefEqProofs (disch:=omega) only[go_sem,simprocAttr,szlt,szpt]
 refine p_loop (ι:={ j:Nat // j<=8/\∀k,k<j->isB s (i+1) (bt ltS k)=false }) (fun p=>⟨[(9,vI p.1),(0,vS s),(1,vI i),(7,vS ltS),(8,vS ptS)],[],[],0,0⟩) (fun p=>8-p.1) ⟨0,by omega,fun k h=>by omega⟩ ?_ ?_
 ·constructor<;>simp only[go_sem,simprocAttr,decide_eq_true_eq,Int.natCast_zero]<;>try ((repeat' apply And.intro)<;>first|rfl|omega|(congr 3; omega)|(congr 2; omega))
 ·rintro⟨j,h1,h2⟩
  simp only at h1 h2 ⊢
  by_cases hj:j<8
  ·have c0:=ris_ok5 s (i+1) (bt ltS j) hs
   simp -implicitDefEqProofs (disch:=omega) only[go_sem,simprocAttr,szlt,szpt]
   with_reducible refine CallOk.of c0 rfl ?_
   cases h3:isB s (i+1) (bt ltS j)with
   |true=>
    have e:escP s i=(bt ptS j,0,i+2):=by
     have h4:i+1<s.size:=by unfold isB at h3; simp at h3; omega
     have hb:=bt_range s (i+1:Nat)
     have hx:=ltS_at ⟨(bt s (i+1:Nat)).toNat,by omega⟩ ⟨j,hj⟩
     simp only[Int.toNat_of_nonneg hb.1]at hx
     have hx:=hx (by unfold isB at h3; simp at h3; exact_mod_cast h3.2) (fun k hk=>by
      have:=h2 k.1 hk
      unfold isB at this
      rw[decide_eq_true h4,Bool.true_and,decide_eq_false_iff_not]at this
      exact this)
     have hh:hasF s ltS (i+1)=true:=by
      unfold hasF ixB
      rw[decide_eq_true h4,Bool.true_and,decide_eq_true_eq,hx]
      omega
     unfold escP
     rw[if_pos hh]
     unfold ixB
     rw[hx]
    rw[hX]at e
    subst e
    have hb:=bt_range ptS j
    simp -implicitDefEqProofs (disch:=omega) only[go_sem,simprocAttr,szlt,szpt,h3]<;>rfl
   |false=>
    simp -implicitDefEqProofs (disch:=omega) only[go_sem,simprocAttr,szlt,szpt,h3]
    refine⟨⟨j+1,hj,fun k hk=>?_⟩,by simp only; omega,?_⟩
    ·rcases Nat.lt_or_eq_of_le (Nat.le_of_lt_succ hk)with h|h
     ·exact h2 k h
     ·rw[h]; exact h3
    ·constructor<;>simp only[go_sem,simprocAttr,decide_eq_true_eq,Int.natCast_add,Int.natCast_one]<;>try ((repeat' apply And.intro)<;>first|rfl|omega|(congr 3; omega)|(congr 2; omega))
  ·have hj8:j=8:=by omega
   subst hj8
   have hno:hasF s ltS (i+1)=false:=by
    by_cases h4:i+1<s.size
    ·have hb:=bt_range s (i+1:Nat)
     have hx:=ltS_none ⟨(bt s (i+1:Nat)).toNat,by omega⟩ (fun k=>by
      have:=h2 k.1 k.2
      unfold isB at this
      rw[decide_eq_true h4,Bool.true_and,decide_eq_false_iff_not]at this
      simp only[Int.toNat_of_nonneg hb.1]
      exact this)
     simp only at hx
     unfold hasF ixB
     rw[hx]
     simp
    ·unfold hasF
     rw[decide_eq_false h4,Bool.false_and]
   have c1:=ris_ok5 s (i+1) 117 hs
   have c2:=rfour_ok s (i+2) hs (by omega)
   rw[isB_u]at c1
   unfold escP at hX
   rw[if_neg (by rw[hno]; decide)]at hX
   simp -implicitDefEqProofs (disch:=omega) only[go_sem,simprocAttr,szlt,szpt]
   with_reducible refine CallOk.of c1 rfl ?_
   cases h5:hasF s uS (i+1)with
   |false=>
    rw[if_neg (by rw[h5]; decide)]at hX
    subst hX
    simp -implicitDefEqProofs (disch:=omega) only[go_sem,simprocAttr,szlt,szpt,h5]<;>rfl
   |true=>
    rw[if_pos h5]at hX
    simp -implicitDefEqProofs (disch:=omega) only[go_sem,simprocAttr,szlt,szpt,h5]
    with_reducible refine CallOk.of c2 rfl ?_
    have hr:=hex4_range s (i+2) (by have:=hasF_lt h5; omega)
    unfold fourR
    cases h6:(hexF s 4 (i+2) 0).2.1 with
    |false=>
     rw[if_neg (by rw[h6]; decide)]at hX
     subst hX
     rw[if_neg (by decide)]
     simp -implicitDefEqProofs (disch:=omega) only[go_sem,simprocAttr,szlt,szpt]<;>rfl
    |true=>
     rw[if_pos h6]at hX
     rw[if_pos rfl]
     generalize (hexF s 4 (i+2) 0).1=n at *
     generalize (hexF s 4 (i+2) 0).2.2=e at *
     have c3:=ris_ok n
     have c4:=ris_ok5 s e 92 hs
     have c5:=ris_ok5 s (e+1) 117 hs
     have c6:=rfour_ok s (e+2) hs (by omega)
     rw[isB_bs]at c4
     rw[isB_u]at c5
     have hpos:¬n<0:=by omega
     simp -implicitDefEqProofs (disch:=omega) only[go_sem,simprocAttr,szlt,szpt,decide_eq_false hpos]
     with_reducible refine CallOk.of c3 rfl ?_
     unfold esc2 at hX
     cases h7:isF n with
     |true=>
      rw[if_pos h7]at hX
      subst hX
      simp -implicitDefEqProofs (disch:=omega) only[go_sem,simprocAttr,szlt,szpt,h7]<;>rfl
     |false=>
     rw[if_neg (by rw[h7]; decide)]at hX
     have h7':55296<=n/\n<57344:=by unfold isF at h7; simp at h7; omega
     have out:∀{c:Prop} [Decidable c] {y:Int×Int×Nat},(if c then y else(0,3,i))=X->¬c->X=(0,3,i):=fun h hc=>by rw[if_neg hc]at h; exact h.symm
     by_cases h8:n<56320
     ·simp -implicitDefEqProofs (disch:=omega) only[go_sem,simprocAttr,szlt,szpt,h7,decide_eq_true h8]
      with_reducible refine CallOk.of c4 rfl ?_
      cases h9:hasF s bsS e with
      |false=>
       obtain rfl:=out hX (fun h=>by rw[h9]at h; exact absurd h.1 (by decide))
       simp -implicitDefEqProofs (disch:=omega) only[go_sem,simprocAttr,szlt,szpt,h9]<;>rfl
      |true=>
      simp -implicitDefEqProofs (disch:=omega) only[go_sem,simprocAttr,szlt,szpt,h9]
      with_reducible refine CallOk.of c5 rfl ?_
      cases h10:hasF s uS (e+1)with
      |false=>
       obtain rfl:=out hX (fun h=>by rw[h10]at h; exact absurd h.2.1 (by decide))
       simp -implicitDefEqProofs (disch:=omega) only[go_sem,simprocAttr,szlt,szpt,h10]<;>rfl
      |true=>
      simp -implicitDefEqProofs (disch:=omega) only[go_sem,simprocAttr,szlt,szpt,h10]
      with_reducible refine CallOk.of c6 rfl ?_
      have hr2:=hex4_range s (e+2) (by have:=hasF_lt h10; omega)
      unfold fourR
      cases h11:(hexF s 4 (e+2) 0).2.1 with
      |false=>
       obtain rfl:=out hX (fun h=>by rw[h11]at h; exact absurd h.2.2.1 (by decide))
       rw[if_neg (by decide)]
       simp -implicitDefEqProofs (disch:=omega) only[go_sem,simprocAttr,szlt,szpt]<;>rfl
      |true=>
       rw[if_pos rfl]
       generalize (hexF s 4 (e+2) 0).1=m at *
       generalize (hexF s 4 (e+2) 0).2.2=q at *
       by_cases h12:56320<=m/\m<=57343
       ·have hp:pairF n m=65536+(n-55296)*1024+m-56320:=if_pos ⟨by omega,by omega,by omega,by omega⟩
        rw[if_pos ⟨h9,h10,h11,by rw[hp]; omega⟩,hp]at hX
        subst hX
        simp -implicitDefEqProofs (disch:=omega) only[go_sem,simprocAttr,szlt,szpt,decide_eq_true h12.1,decide_eq_true h12.2]<;>rfl
       ·have hp:pairF n m = -1:=if_neg (by omega)
        obtain rfl:=out hX (fun h=>by rw[hp]at h; omega)
        by_cases h13:56320<=m
        ·simp -implicitDefEqProofs (disch:=omega) only[go_sem,simprocAttr,szlt,szpt,decide_eq_true h13,decide_eq_false (show ¬m<=57343 by omega)]<;>rfl
        ·simp -implicitDefEqProofs (disch:=omega) only[go_sem,simprocAttr,szlt,szpt,decide_eq_false h13]<;>rfl
     ·obtain rfl:=out hX (fun h=>by have:pairF n (hexF s 4 (e+2) 0).1 = -1:=if_neg (by omega); rw[this]at h; omega)
      simp -implicitDefEqProofs (disch:=omega) only[go_sem,simprocAttr,szlt,szpt,h7,decide_eq_false h8]<;>rfl
def rnumE (b:Nat)(c:Bool×Nat):Nat×Bool×Bool:=if c.1=true then(c.2,decide (c.2=b),true) else(c.2,false,false)
def rnumD (s:ByteArray)(b:Nat)(c:Bool×Nat):Nat×Bool×Bool:=if c.1=true then rnumE b (numE s c.2) else(c.2,false,false)
def rnumI (s:ByteArray)(b:Bool×Nat):Nat×Bool×Bool:=if b.1=true then rnumD s b.2 (numD s b.2) else(b.2,false,false)
def rnumF (s:ByteArray)(i:Nat):Nat×Bool×Bool:=rnumI s (numI s (oneP s mnS i))
theorem isB_mn (s:ByteArray)(i:Nat):isB s i 45=hasF s mnS i:=isB_hasF s 45 i
theorem isB_zr (s:ByteArray)(i:Nat):isB s i 48=hasF s zrS i:=isB_hasF s 48 i
theorem isB_dt (s:ByteArray)(i:Nat):isB s i 46=hasF s dtS i:=isB_hasF s 46 i
theorem hasF_ee (s:ByteArray)(i:Nat):hasF s eeS i=(isB s i 101||isB s i 69):=by
 have h:=hasF_cons s 101 [69] i
 rw[hasF_cons s 69,hasF_none,Bool.or_false]at h
 exact h
theorem hasF_pm (s:ByteArray)(i:Nat):hasF s pmS i=(isB s i 43||isB s i 45):=by
 have h:=hasF_cons s 43 [45] i
 rw[hasF_cons s 45,hasF_none,Bool.or_false]at h
 exact h
theorem dg_zr {s:ByteArray}{i:Nat}(h:hasF s zrS i=true):hasF s dgS i=true:=by
 rw[<-isB_zr]at h
 rw[hasF_dg]
 unfold isB at h
 simp only[Bool.and_eq_true,decide_eq_true_eq]at h ⊢
 omega
theorem passF_ne {s:ByteArray}{i:Nat}(hi:i<=s.size):decide (passF s dgS i=i) = !hasF s dgS i:=by
 cases h:hasF s dgS i with
 |true=>
  have:=hasF_lt h
  have:=passF_le s dgS (i+1) (by omega)
  rw[passF_t h,decide_eq_false (by omega)]; rfl
 |false=>rw[passF_f h,decide_eq_true rfl]; rfl
set_option maxHeartbeats 16000000 in
theorem rnumber_ok (s:ByteArray)(i:Nat)(hi:i<=s.size)(hs:s.size<=1000000):Ok Tryz.prog 37 [vS s,vI i] (.tup [vI (rnumF s i).1,vB (rnumF s i).2.1,vB (rnumF s i).2.2]):=by
 refine Ok.of_pwpB (by kernel_rfl) Tryz.func37 rfl (by kernel_rfl) (by kernel_rfl) (bar:=bar2 3 1000 (bar2 8 1000 (bar2 14 1000 (bar2 22 1000 noBar)))) ?_
 unfold rnumF
 have ha:=oneP_le (s:=s) (some:=mnS) hi
 have c0:=ris_ok5 s i 45 hs
 rw[isB_mn]at c0
 refine p_seq_k (fun K hK=>?_)
 simp -implicitDefEqProofs (disch:=omega) only[go_sem,simprocAttr]
 refine hK _ ?_
 clear hK
 obtain⟨a,hA⟩:∃a,a=oneP s mnS i:=⟨_,rfl⟩
 rw[<-hA]at ha ⊢
 refine p_join (D:=Unit) (fun _=>⟨[(1,vI a),(0,vS s)],[],[],0,0⟩) ?_ ?_
 rotate_left
 ·intro K hK
  unfold oneP at hA
  simp -implicitDefEqProofs (disch:=omega) only[go_sem,simprocAttr]
  with_reducible refine CallOk.of c0 rfl ?_
  cases h0:hasF s mnS i with
  |true=>
   rw[if_pos h0]at hA
   subst hA
   simp -implicitDefEqProofs (disch:=omega) only[go_sem,simprocAttr,h0]
   refine hK () _ ?_
   constructor<;>simp only[go_sem,simprocAttr,decide_eq_true_eq,Int.natCast_add,Int.natCast_one]<;>try ((repeat' apply And.intro)<;>first|rfl|omega|(congr 3; omega)|(congr 2; omega))
  |false=>
   rw[if_neg (by rw[h0]; decide)]at hA
   subst hA
   simp -implicitDefEqProofs (disch:=omega) only[go_sem,simprocAttr,h0]
   refine hK () _ ?_
   constructor<;>simp only[go_sem,simprocAttr,decide_eq_true_eq,Int.natCast_add,Int.natCast_one]<;>try ((repeat' apply And.intro)<;>first|rfl|omega|(congr 3; omega)|(congr 2; omega))
 rintro⟨⟩ st hw
 clear hA c0
 have c1:=rdigit_ok s a hs
 have hI:numI s a=(hasF s dgS a,if hasF s zrS a=true then a+1 else passF s dgS a):=by
  unfold numI
  cases h:hasF s zrS a with
  |true=>rw[if_pos rfl,if_pos rfl,dg_zr h]
  |false=>rw[if_neg (by decide),if_neg (by decide),passF_ne ha.2,Bool.not_not]
 have hb:hasF s dgS a=true->(numI s a).2<=s.size:=fun h=>by
  have:=hasF_lt h
  have:=passF_le s dgS a ha.2
  rw[hI]
  simp only
  split<;>omega
 unfold rnumI
 refine p_seq_k (fun K hK=>?_)
 simp -implicitDefEqProofs (disch:=omega) only[go_sem,simprocAttr]
 refine p_weak hw ?_
 simp -implicitDefEqProofs (disch:=omega) only[go_sem,simprocAttr]
 with_reducible refine CallOk.of c1 rfl ?_
 cases h1:hasF s dgS a with
 |false=>
  have hz:hasF s zrS a=false:=by
   cases h:hasF s zrS a with
   |false=>rfl
   |true=>rw[dg_zr h]at h1; cases h1
  have hz2:numI s a=(false,a):=by rw[hI,h1,hz,if_neg (by decide),passF_f h1]
  rw[hz2,if_neg (show ¬((false,a):Bool×Nat).1=true by simp)]
  simp -implicitDefEqProofs (disch:=omega) only[go_sem,simprocAttr,h1]
 |true=>
 simp -implicitDefEqProofs (disch:=omega) only[go_sem,simprocAttr,h1]
 refine hK _ ?_
 clear hK
 have hb':=hb h1
 have e1:(numI s a).1=true:=by rw[hI]; exact h1
 rw[if_pos e1]
 have e2:(numI s a).2=if hasF s zrS a=true then a+1 else passF s dgS a:=by rw[hI]
 generalize (numI s a).2=b at *
 clear hI e1 hb
 refine p_join (D:=Unit) (fun _=>⟨[(1,vI b),(0,vS s)],[],[],0,0⟩) ?_ ?_
 rotate_left
 ·intro K hK
  have hl:=hasF_lt h1
  have cd:=rdigits_ok s a hs h1
  have hz:hasF s zrS a=decide (bt s a=48):=by
   rw[<-isB_zr]; unfold isB; rw[decide_eq_true hl,Bool.true_and]
  by_cases h2:bt s a=48
  ·rw[if_pos (by rw[hz]; exact decide_eq_true h2)]at e2
   subst e2
   simp -implicitDefEqProofs (disch:=omega) only[go_sem,simprocAttr,decide_eq_true h2]
   refine hK () _ ?_
   constructor<;>simp only[go_sem,simprocAttr,decide_eq_true_eq,Int.natCast_add,Int.natCast_one]<;>try ((repeat' apply And.intro)<;>first|rfl|omega|(congr 3; omega)|(congr 2; omega))
  ·rw[if_neg (by rw[hz,decide_eq_false h2]; decide)]at e2
   subst e2
   simp -implicitDefEqProofs (disch:=omega) only[go_sem,simprocAttr,decide_eq_false h2]
   with_reducible refine CallOk.of cd rfl ?_
   simp -implicitDefEqProofs (disch:=omega) only[go_sem,simprocAttr]
   refine hK () _ ?_
   constructor<;>simp only[go_sem,simprocAttr,decide_eq_true_eq,Int.natCast_add,Int.natCast_one]<;>try ((repeat' apply And.intro)<;>first|rfl|omega|(congr 3; omega)|(congr 2; omega))
 rintro⟨⟩ st2 hw2
 clear e2 hw h1 c1
 refine p_seq_k (fun K hK=>?_)
 simp -implicitDefEqProofs (disch:=omega) only[go_sem,simprocAttr]
 refine p_weak hw2 ?_
 simp -implicitDefEqProofs (disch:=omega) only[go_sem,simprocAttr]
 refine hK _ ?_
 clear hK hw2
 have c2:=ris_ok5 s b 46 hs
 rw[isB_dt]at c2
 have hD:numD s b=if hasF s dtS b=true then(hasF s dgS (b+1),passF s dgS (b+1)) else(true,b):=by
  unfold numD
  cases h:hasF s dtS b with
  |true=>
   have:=hasF_lt h
   rw[if_pos rfl,if_pos rfl,passF_ne (by omega),Bool.not_not]
  |false=>rfl
 have hcp:b<=(numD s b).2/\(numD s b).2<=s.size/\(hasF s dtS b=true->b<(numD s b).2)/\(hasF s dtS b=false->(numD s b).2=b):=by
  rw[hD]
  cases h:hasF s dtS b with
  |true=>
   have:=hasF_lt h
   have:=passF_le s dgS (b+1) (by omega)
   rw[if_pos rfl]
   refine⟨by simp only; omega,by simp only; omega,(fun _=>by simp only; omega),(fun h=>by cases h)⟩
  |false=>rw[if_neg (by decide)]; refine⟨by simp only; omega,by simp only; omega,(fun h=>by cases h),fun _=>rfl⟩
 unfold rnumD
 refine p_join (D:={ _u:Unit // (numD s b).1=true }) (fun _=>⟨[(7,vB (!hasF s dtS b)),(1,vI (numD s b).2),(0,vS s)],[],[],0,0⟩) ?_ ?_
 rotate_left
 ·intro K hK
  simp -implicitDefEqProofs (disch:=omega) only[go_sem,simprocAttr]
  with_reducible refine CallOk.of c2 rfl ?_
  cases h2:hasF s dtS b with
  |false=>
   simp -implicitDefEqProofs (disch:=omega) only[go_sem,simprocAttr,h2]
   refine hK ⟨(),by rw[hD,h2]; rfl⟩ _ ?_
   rw[hD,h2]
   constructor<;>simp only[go_sem,simprocAttr,decide_eq_true_eq,Int.natCast_add,Int.natCast_one]<;>try ((repeat' apply And.intro)<;>first|rfl|omega|(congr 3; omega)|(congr 2; omega))
  |true=>
   have hl:=hasF_lt h2
   have c3:=rdigit_ok s (b+1) hs
   rw[hD,h2,if_pos rfl]at hK ⊢
   simp -implicitDefEqProofs (disch:=omega) only[go_sem,simprocAttr,h2]
   with_reducible refine CallOk.of c3 rfl ?_
   cases h3:hasF s dgS (b+1)with
   |false=>
    rw[if_neg (show ¬((false,passF s dgS (b+1)):Bool×Nat).1=true by simp),passF_f h3]
    simp -implicitDefEqProofs (disch:=omega) only[go_sem,simprocAttr,h3]<;>rfl
   |true=>
    have cd:=rdigits_ok s (b+1) hs h3
    simp -implicitDefEqProofs (disch:=omega) only[go_sem,simprocAttr,h3]
    with_reducible refine CallOk.of cd rfl ?_
    simp -implicitDefEqProofs (disch:=omega) only[go_sem,simprocAttr]
    refine hK ⟨(),h3⟩ _ ?_
    constructor<;>simp only[go_sem,simprocAttr,decide_eq_true_eq,Int.natCast_add,Int.natCast_one]<;>try ((repeat' apply And.intro)<;>first|rfl|omega|(congr 3; omega)|(congr 2; omega))
 rintro⟨⟨⟩,d1⟩ st3 hw3
 rw[if_pos d1]
 clear hD
 generalize hdt:hasF s dtS b=dt at *
 generalize (numD s b).2=c at *
 obtain⟨q1,q2,q3,q4⟩:=hcp
 have c4:=ris_ok5 s c 101 hs
 have c5:=ris_ok5 s c 69 hs
 have hE:numE s c=if hasF s eeS c=true then(hasF s dgS (oneP s pmS (c+1)),passF s dgS (oneP s pmS (c+1))) else(true,c):=by
  unfold numE
  cases h:hasF s eeS c with
  |true=>
   have:=hasF_lt h
   have:=oneP_le (s:=s) (some:=pmS) (i:=c+1) (by omega)
   rw[if_pos rfl,if_pos rfl,passF_ne this.2,Bool.not_not]
  |false=>rfl
 have hep:c<=(numE s c).2/\(numE s c).2<=s.size/\(hasF s eeS c=true->c<(numE s c).2)/\(hasF s eeS c=false->(numE s c).2=c):=by
  rw[hE]
  cases h:hasF s eeS c with
  |true=>
   have:=hasF_lt h
   have:=oneP_le (s:=s) (some:=pmS) (i:=c+1) (by omega)
   have:=passF_le s dgS (oneP s pmS (c+1)) (by omega)
   rw[if_pos rfl]
   refine⟨by simp only; omega,by simp only; omega,(fun _=>by simp only; omega),(fun h=>by cases h)⟩
  |false=>rw[if_neg (by decide)]; refine⟨by simp only; omega,by simp only; omega,(fun h=>by cases h),fun _=>rfl⟩
 unfold rnumE
 have hee:=hasF_ee s c
 refine p_join (D:={ _u:Unit // (numE s c).1=true }) (fun _=>⟨[(7,vB (!dt && !hasF s eeS c)),(1,vI (numE s c).2),(0,vS s)],[],[],0,0⟩) ?_ ?_
 rotate_left
 ·intro K hK
  simp -implicitDefEqProofs (disch:=omega) only[go_sem,simprocAttr]
  refine p_weak hw3 ?_
  simp -implicitDefEqProofs (disch:=omega) only[go_sem,simprocAttr]
  with_reducible refine CallOk.of c4 rfl ?_
  cases h4:isB s c 101 with
  |true=>
   have he:hasF s eeS c=true:=by rw[hee,h4]; rfl
   have hl:=hasF_lt he
   simp -implicitDefEqProofs (disch:=omega) only[go_sem,simprocAttr,h4]
   have c6:=ris_ok5 s (c+1) 43 hs
   have c7:=ris_ok5 s (c+1) 45 hs
   have hpm:=hasF_pm s (c+1)
   with_reducible refine CallOk.of c6 rfl ?_
   cases h6:isB s (c+1) 43 with
   |true=>
    have ho:oneP s pmS (c+1)=c+2:=if_pos (by rw[hpm,h6]; rfl)
    simp -implicitDefEqProofs (disch:=omega) only[go_sem,simprocAttr,h6]
    rw[hE,he,if_pos rfl,ho]at hK ⊢
    have cd:=rdigit_ok s (c+2) hs
    with_reducible refine CallOk.of cd rfl ?_
    cases h8:hasF s dgS (c+2)with
    |false=>
     rw[if_neg (fun h:(false:Bool)=true=>by cases h),passF_f h8]
     simp -implicitDefEqProofs (disch:=omega) only[go_sem,simprocAttr,h8]<;>rfl
    |true=>
     have cg:=rdigits_ok s (c+2) hs h8
     simp -implicitDefEqProofs (disch:=omega) only[go_sem,simprocAttr,h8]
     with_reducible refine CallOk.of cg rfl ?_
     simp -implicitDefEqProofs (disch:=omega) only[go_sem,simprocAttr]
     refine hK ⟨(),h8⟩ _ ?_
     constructor<;>simp only[go_sem,simprocAttr,decide_eq_true_eq,Bool.not_true,Bool.and_false]<;>try ((repeat' apply And.intro)<;>first|rfl|omega|(congr 3; omega)|(congr 2; omega))
   |false=>
   simp -implicitDefEqProofs (disch:=omega) only[go_sem,simprocAttr,h6]
   with_reducible refine CallOk.of c7 rfl ?_
   cases h7:isB s (c+1) 45 with
   |true=>
    have ho:oneP s pmS (c+1)=c+2:=if_pos (by rw[hpm,h6,h7]; rfl)
    simp -implicitDefEqProofs (disch:=omega) only[go_sem,simprocAttr,h6,h7]
    rw[hE,he,if_pos rfl,ho]at hK ⊢
    have cd:=rdigit_ok s (c+2) hs
    with_reducible refine CallOk.of cd rfl ?_
    cases h8:hasF s dgS (c+2)with
    |false=>
     rw[if_neg (fun h:(false:Bool)=true=>by cases h),passF_f h8]
     simp -implicitDefEqProofs (disch:=omega) only[go_sem,simprocAttr,h8]<;>rfl
    |true=>
     have cg:=rdigits_ok s (c+2) hs h8
     simp -implicitDefEqProofs (disch:=omega) only[go_sem,simprocAttr,h8]
     with_reducible refine CallOk.of cg rfl ?_
     simp -implicitDefEqProofs (disch:=omega) only[go_sem,simprocAttr]
     refine hK ⟨(),h8⟩ _ ?_
     constructor<;>simp only[go_sem,simprocAttr,decide_eq_true_eq,Bool.not_true,Bool.and_false]<;>try ((repeat' apply And.intro)<;>first|rfl|omega|(congr 3; omega)|(congr 2; omega))
   |false=>
    have ho:oneP s pmS (c+1)=c+1:=if_neg (by rw[hpm,h6,h7]; decide)
    simp -implicitDefEqProofs (disch:=omega) only[go_sem,simprocAttr,h6,h7]
    rw[hE,he,if_pos rfl,ho]at hK ⊢
    have cd:=rdigit_ok s (c+1) hs
    with_reducible refine CallOk.of cd rfl ?_
    cases h8:hasF s dgS (c+1)with
    |false=>
     rw[if_neg (fun h:(false:Bool)=true=>by cases h),passF_f h8]
     simp -implicitDefEqProofs (disch:=omega) only[go_sem,simprocAttr,h8]<;>rfl
    |true=>
     have cg:=rdigits_ok s (c+1) hs h8
     simp -implicitDefEqProofs (disch:=omega) only[go_sem,simprocAttr,h8]
     with_reducible refine CallOk.of cg rfl ?_
     simp -implicitDefEqProofs (disch:=omega) only[go_sem,simprocAttr]
     refine hK ⟨(),h8⟩ _ ?_
     constructor<;>simp only[go_sem,simprocAttr,decide_eq_true_eq,Bool.not_true,Bool.and_false]<;>try ((repeat' apply And.intro)<;>first|rfl|omega|(congr 3; omega)|(congr 2; omega))
  |false=>
  simp -implicitDefEqProofs (disch:=omega) only[go_sem,simprocAttr,h4]
  with_reducible refine CallOk.of c5 rfl ?_
  cases h5:isB s c 69 with
  |true=>
   have he:hasF s eeS c=true:=by rw[hee,h4,h5]; rfl
   have hl:=hasF_lt he
   simp -implicitDefEqProofs (disch:=omega) only[go_sem,simprocAttr,h4,h5]
   have c6:=ris_ok5 s (c+1) 43 hs
   have c7:=ris_ok5 s (c+1) 45 hs
   have hpm:=hasF_pm s (c+1)
   with_reducible refine CallOk.of c6 rfl ?_
   cases h6:isB s (c+1) 43 with
   |true=>
    have ho:oneP s pmS (c+1)=c+2:=if_pos (by rw[hpm,h6]; rfl)
    simp -implicitDefEqProofs (disch:=omega) only[go_sem,simprocAttr,h6]
    rw[hE,he,if_pos rfl,ho]at hK ⊢
    have cd:=rdigit_ok s (c+2) hs
    with_reducible refine CallOk.of cd rfl ?_
    cases h8:hasF s dgS (c+2)with
    |false=>
     rw[if_neg (fun h:(false:Bool)=true=>by cases h),passF_f h8]
     simp -implicitDefEqProofs (disch:=omega) only[go_sem,simprocAttr,h8]<;>rfl
    |true=>
     have cg:=rdigits_ok s (c+2) hs h8
     simp -implicitDefEqProofs (disch:=omega) only[go_sem,simprocAttr,h8]
     with_reducible refine CallOk.of cg rfl ?_
     simp -implicitDefEqProofs (disch:=omega) only[go_sem,simprocAttr]
     refine hK ⟨(),h8⟩ _ ?_
     constructor<;>simp only[go_sem,simprocAttr,decide_eq_true_eq,Bool.not_true,Bool.and_false]<;>try ((repeat' apply And.intro)<;>first|rfl|omega|(congr 3; omega)|(congr 2; omega))
   |false=>
   simp -implicitDefEqProofs (disch:=omega) only[go_sem,simprocAttr,h6]
   with_reducible refine CallOk.of c7 rfl ?_
   cases h7:isB s (c+1) 45 with
   |true=>
    have ho:oneP s pmS (c+1)=c+2:=if_pos (by rw[hpm,h6,h7]; rfl)
    simp -implicitDefEqProofs (disch:=omega) only[go_sem,simprocAttr,h6,h7]
    rw[hE,he,if_pos rfl,ho]at hK ⊢
    have cd:=rdigit_ok s (c+2) hs
    with_reducible refine CallOk.of cd rfl ?_
    cases h8:hasF s dgS (c+2)with
    |false=>
     rw[if_neg (fun h:(false:Bool)=true=>by cases h),passF_f h8]
     simp -implicitDefEqProofs (disch:=omega) only[go_sem,simprocAttr,h8]<;>rfl
    |true=>
     have cg:=rdigits_ok s (c+2) hs h8
     simp -implicitDefEqProofs (disch:=omega) only[go_sem,simprocAttr,h8]
     with_reducible refine CallOk.of cg rfl ?_
     simp -implicitDefEqProofs (disch:=omega) only[go_sem,simprocAttr]
     refine hK ⟨(),h8⟩ _ ?_
     constructor<;>simp only[go_sem,simprocAttr,decide_eq_true_eq,Bool.not_true,Bool.and_false]<;>try ((repeat' apply And.intro)<;>first|rfl|omega|(congr 3; omega)|(congr 2; omega))
   |false=>
    have ho:oneP s pmS (c+1)=c+1:=if_neg (by rw[hpm,h6,h7]; decide)
    simp -implicitDefEqProofs (disch:=omega) only[go_sem,simprocAttr,h6,h7]
    rw[hE,he,if_pos rfl,ho]at hK ⊢
    have cd:=rdigit_ok s (c+1) hs
    with_reducible refine CallOk.of cd rfl ?_
    cases h8:hasF s dgS (c+1)with
    |false=>
     rw[if_neg (fun h:(false:Bool)=true=>by cases h),passF_f h8]
     simp -implicitDefEqProofs (disch:=omega) only[go_sem,simprocAttr,h8]<;>rfl
    |true=>
     have cg:=rdigits_ok s (c+1) hs h8
     simp -implicitDefEqProofs (disch:=omega) only[go_sem,simprocAttr,h8]
     with_reducible refine CallOk.of cg rfl ?_
     simp -implicitDefEqProofs (disch:=omega) only[go_sem,simprocAttr]
     refine hK ⟨(),h8⟩ _ ?_
     constructor<;>simp only[go_sem,simprocAttr,decide_eq_true_eq,Bool.not_true,Bool.and_false]<;>try ((repeat' apply And.intro)<;>first|rfl|omega|(congr 3; omega)|(congr 2; omega))
  |false=>
   have he:hasF s eeS c=false:=by rw[hee,h4,h5]; rfl
   simp -implicitDefEqProofs (disch:=omega) only[go_sem,simprocAttr,h4,h5]
   refine hK ⟨(),by rw[hE,he]; rfl⟩ _ ?_
   rw[hE,he]
   constructor<;>simp only[go_sem,simprocAttr,decide_eq_true_eq,Bool.not_false,Bool.and_true]<;>try ((repeat' apply And.intro)<;>first|rfl|omega|(congr 3; omega)|(congr 2; omega))
 rintro⟨⟨⟩,f1⟩ st4 hw4
 rw[if_pos f1]
 have hpl:(!dt && !hasF s eeS c)=decide ((numE s c).2=b):=by
  cases dt with
  |true=>
   have:=q3 rfl
   rw[decide_eq_false (by omega)]; rfl
  |false=>
   cases h:hasF s eeS c with
   |true=>have:=hep.2.2.1 h; rw[decide_eq_false (by omega)]; rfl
   |false=>
    have:=hep.2.2.2 h
    have:=q4 rfl
    rw[decide_eq_true (by omega)]; rfl
 rw[<-hpl]
 simp -implicitDefEqProofs (disch:=omega) only[go_sem,simprocAttr]
 refine p_weak hw4 ?_
 simp -implicitDefEqProofs (disch:=omega) only[go_sem,simprocAttr]
end Go.Proofs.YtcgmpcbkndpmbaaGreatDoor

end
section
open Go Go.Proofs Go.Pw Go.RowKit
namespace Go.Proofs.YtcgmpcbkndpmbaaGreatDoor
set_option maxRecDepth 4000
set_option linter.unusedSimpArgs false
set_option linter.unusedVariables false
attribute [local go_sem] Nat.le_refl Tryz.results32 encI_len encI_take
abbrev isPt (n:Int):Prop:=0<=n/\n<=1114111
def textN (l:List Int):List Int:=l.flatMap bytesF
theorem bytesF_byte (n:Int)(h:isPt n):∀x∈bytesF n,0<=x/\x<=255:=by
 unfold bytesF
 intro x hx
 split at hx
 ·simp at hx; omega
 ·split at hx
  ·simp at hx; omega
  ·split at hx
   ·simp at hx; omega
   ·simp at hx; omega
theorem bytesF_len (n:Int):1<=(bytesF n).length/\(bytesF n).length<=4:=by
 unfold bytesF
 repeat' split
 all_goals simp
theorem take_snocJ {a:List Int}{k:Nat}(h:k<a.length):a.take (k+1)=a.take k++[a.getD k 0]:=by
 rw[List.take_succ_eq_append_getElem h,List.getD_eq_getElem?_getD,List.getElem?_eq_getElem h]; rfl
theorem textN_step {l:List Int}{i:Nat}(h:i<l.length):textN (l.take (i+1))=textN (l.take i)++bytesF (l.getD i 0):=by
 unfold textN
 rw[take_snocJ h,List.flatMap_append]
 simp
theorem textN_len (l:List Int):(textN l).length<=4*l.length:=by
 induction l with
 |nil=>simp[textN]
 |cons x r ih=>
  have:=(bytesF_len x).2
  unfold textN at *
  rw[List.flatMap_cons,List.length_append,List.length_cons]
  omega
def textS (l:List Int)(i tk:Nat)(xs:List Int):PS:=
 ⟨[(3,rowC tk xs),(9,vI i),(8,vI l.length),(7,.sl (encI l)),(0,.sl (encI l))],[],tokC tk 5 xs,0,tk+1⟩
def textT (l b:List Int)(i k tk:Nat)(xs:List Int):PS:=
 ⟨[(3,rowC tk xs),(19,vI k),(18,vI b.length),(5,.sl (encI b)),(9,vI i),(8,vI l.length),(7,.sl (encI l)),(0,.sl (encI l))],[],tokC tk 5 xs,0,tk+1⟩
set_option maxHeartbeats 4000000 in
theorem ptext_ok (l:List Int)(hl:∀n∈l,isPt n)(hn:l.length<=1000000):Ok Tryz.prog 32 [.sl (encI l)] (vS (strOfNums (textN l))):=by
 refine Ok.of_pwp (by kernel_rfl) Tryz.func32 rfl (by kernel_rfl) (by kernel_rfl) ?_
 simp -implicitDefEqProofs (disch:=omega) only[go_sem,simprocAttr, ↓ix_enc]
 refine p_loop (ι:={ p:Nat×Nat // p.1<=l.length }) (fun p=>textS l p.1.1 p.1.2 (textN (l.take p.1.1))) (fun p=>l.length-p.1.1) ⟨(0,0),Nat.zero_le _⟩ ?_ ?_
 ·simp only[textS,List.take_zero,textN,List.flatMap_nil,rowC,tokC]
  constructor<;>simp only[go_sem,simprocAttr,decide_eq_true_eq,Int.natCast_zero]<;>try ((repeat' apply And.intro)<;>first|rfl|omega|(congr 3; omega)|(congr 2; omega))
 ·rintro⟨⟨i,tk⟩,hi⟩
  simp only at hi ⊢
  have tl:=textN_len (l.take i)
  rw[List.length_take]at tl
  simp only[textS]
  simp -implicitDefEqProofs (disch:=omega) only[go_sem,simprocAttr, ↓ix_enc]
  with_reducible refine ifK_split (fun hlt=>?_) (fun hge=>?_)
  ·simp -implicitDefEqProofs (disch:=omega) only[go_sem,simprocAttr, ↓ix_enc]
   have hp:isPt (l.getD i 0):=by
    rw[List.getD_eq_getElem?_getD,List.getElem?_eq_getElem (by omega)]
    exact hl _ (List.getElem_mem (by omega))
   with_reducible refine CallOk.of (bytes_ok _ (And.left hp) (And.right hp)) rfl ?_
   simp -implicitDefEqProofs (disch:=omega) only[go_sem,simprocAttr, ↓ix_enc]
   have hbl:=bytesF_len (l.getD i 0)
   have hbb:=bytesF_byte (l.getD i 0) hp
   have hst:=textN_step (l:=l) (i:=i) (by omega)
   generalize bytesF (l.getD i 0)=b at *
   refine p_loop (ι:={ p:Nat×Nat×List Int // p.1<=b.length/\p.2.2=textN (l.take i)++b.take p.1 }) (fun p=>textT l b i p.1.1 p.1.2.1 p.1.2.2) (fun p=>b.length-p.1.1) ⟨(0,tk,textN (l.take i)),Nat.zero_le _,by simp⟩ ?_ ?_
   ·simp only[textT]
    refine⟨?_,?_,tokC_weak _ _ _,?_,?_,?_,?_⟩<;>simp only[go_sem,simprocAttr,decide_eq_true_eq,rowC_lt,Int.natCast_zero]<;>try omega
   ·rintro⟨⟨k,tk2,xs⟩,hk,hx⟩
    simp only at hk hx ⊢
    have hxl:=congrArg List.length hx
    rw[List.length_append,List.length_take]at hxl
    simp only[textT]
    simp -implicitDefEqProofs (disch:=omega) only[go_sem,simprocAttr, ↓ix_enc]
    with_reducible refine ifK_split (fun hlt2=>?_) (fun hge2=>?_)
    ·have hgk:0<=b.getD k 0/\b.getD k 0<=255:=by
      rw[List.getD_eq_getElem?_getD,List.getElem?_eq_getElem (by omega)]
      exact hbb _ (List.getElem_mem (by omega))
     have hx2:xs++[b.getD k 0]=textN (l.take i)++b.take (k+1):=by rw[hx,take_snocJ (by omega),List.append_assoc]
     cases xs with
     |nil=>
      simp only[rowC,tokC]
      simp -implicitDefEqProofs (disch:=omega) only[go_sem,simprocAttr, ↓ix_enc,wrap8 hgk.1 hgk.2]
      refine⟨⟨(k+1,tk2+1+1+2+7,[b.getD k 0]),by simp only; omega,by simpa using hx2⟩,by simp only; omega,?_⟩
      simp only[textT,rowC,tokC,<-encC_one]
      constructor<;>simp only[go_sem,simprocAttr,decide_eq_true_eq,Int.natCast_add,Int.natCast_one,List.length_singleton,ite_self,List.length_nil,Nat.zero_add]<;>try ((repeat' apply And.intro)<;>first|rfl|omega|(congr 3; omega)|(congr 2; omega))
     |cons x r=>
      simp only[List.length_cons]at hxl
      have hrl:r.length<=5000000:=by omega
      simp only[rowC,tokC]
      simp -implicitDefEqProofs (disch:=omega) only[go_sem,simprocAttr, ↓ix_enc,wrap8 hgk.1 hgk.2]
      refine⟨⟨(k+1,tk2,x::(r++[b.getD k 0])),by simp only; omega,by simpa using hx2⟩,by simp only; omega,?_⟩
      simp only[textT,rowC,tokC]
      constructor<;>simp only[go_sem,simprocAttr,decide_eq_true_eq,Int.natCast_add,Int.natCast_one,List.length_cons,List.length_append,List.length_singleton]<;>try ((repeat' apply And.intro)<;>first|rfl|omega|(congr 3; omega)|(congr 2; omega))
    ·have hkb:k=b.length:=by omega
     rw[hkb,List.take_length,<-hst]at hx
     subst hx
     simp -implicitDefEqProofs (disch:=omega) only[go_sem,simprocAttr, ↓ix_enc]
     refine⟨⟨(i+1,tk2),by simp only; omega⟩,by simp only; omega,?_⟩
     simp only[textS]
     refine⟨?_,?_,tokC_weak _ _ _,?_,?_,?_,?_⟩<;>simp only[go_sem,simprocAttr,decide_eq_true_eq,rowC_lt,Int.natCast_add,Int.natCast_one]<;>try omega
  ·have hii:i=l.length:=by omega
   subst hii
   rw[List.take_length]
   simp -implicitDefEqProofs (disch:=omega) only[go_sem,simprocAttr, ↓ix_enc]
end Go.Proofs.YtcgmpcbkndpmbaaGreatDoor

end
section
open Go Go.Proofs Go.Pw Go.RowKit
namespace Go.Proofs.YtcgmpcbkndpmbaaGreatDoor
set_option maxRecDepth 4000
set_option linter.unusedVariables false
set_option linter.unusedSimpArgs false
theorem byteN_right (a b:ByteArray)(k:Nat):byteN (a++b) (a.size+k)=byteN b k:=by
 unfold byteN
 have e:a.data.toList.length=a.size:=Array.length_toList
 rw[ByteArray.data_append,Array.toList_append,List.getD_eq_getElem?_getD,List.getD_eq_getElem?_getD,List.getElem?_append_right (by rw[e]; omega),e,Nat.add_sub_cancel_left]
theorem dec_right (a b:ByteArray)(i:Nat):Utf8.decode (a++b) (a.size+i)=Utf8.decode b i:=by
 rw[Lib.decode_at,Lib.decode_at]
 simp only[get!_byteN,Nat.add_assoc,byteN_right,ByteArray.size_append]
 rw[show a.size+b.size-(a.size+i)=b.size-i by omega]
theorem scan_right (a b:ByteArray)(i:Nat):scan (a++b) (a.size+i)=((scan b i).1,a.size+(scan b i).2):=by
 have hs:(a++b).size=a.size+b.size:=ByteArray.size_append
 by_cases h:i<b.size
 ·by_cases hb:Utf8.decode b i=(65533,1)
  ·rw[scan_bad h hb,scan_bad (by omega) (by rw[dec_right]; exact hb)]
  ·have hp:=dec_pos b i h
   have ih:=scan_right a b (i+(Utf8.decode b i).2)
   rw[scan_step h hb,scan_step (by omega) (by rw[dec_right]; exact hb),dec_right,Nat.add_assoc,ih]
 ·rw[scan_end h,scan_end (by omega)]
termination_by b.size-i
theorem byteN_app {l:List Int}(hl:∀x∈l,0<=x/\x<=255)(t:ByteArray)(k:Nat)(h:k<l.length):(byteN (strOfNums l++t) k:Int)=l.getD k 0:=by
 have hd:(strOfNums l++t).data.toList=(l.map fun n=>UInt8.ofNat n.toNat)++t.data.toList:=by
  rw[ByteArray.data_append,Array.toList_append]
  rfl
 have hx:=hl _ (List.getElem_mem h)
 unfold byteN
 rw[hd,List.getD_eq_getElem?_getD,List.getElem?_append_left (by simpa using h),List.getElem?_map,List.getElem?_eq_getElem h]
 simp only[Option.map_some,Option.getD_some,List.getD_eq_getElem?_getD,List.getElem?_eq_getElem h]
 rw[UInt8.toNat_ofNat']
 omega
theorem dec_enc (n:Int)(h:isF n=true)(t:ByteArray):goodN (Utf8.decode (strOfNums (bytesF n)++t) 0)=(n,((bytesF n).length:Int)):=by
 have hp:isPt n:=by unfold isF at h; simp only[decide_eq_true_eq]at h; exact⟨by omega,by omega⟩
 have hB:=bytesF_byte n hp
 have g:=fun k hk=>byteN_app hB t k hk
 have hs:(strOfNums (bytesF n)++t).size=(bytesF n).length+t.size:=by rw[ByteArray.size_append,strOfNums_size]
 rw[Lib.decode_at]
 simp only[get!_byteN,Nat.zero_add]
 have hs0:(strOfNums (bytesF n)++t).size-0=(bytesF n).length+t.size:=by omega
 rw[hs0]
 generalize strOfNums (bytesF n)++t=s at *
 have b1:=byteN_lt s 1
 have b2:=byteN_lt s 2
 have b3:=byteN_lt s 3
 have b0:=byteN_lt s 0
 unfold isF at h
 simp only[decide_eq_true_eq]at h
 have nope:∀a b:Nat,(a≠65533∨b≠1)->goodN (a,b)=((a:Int),(b:Int)):=fun a b h=>by
  unfold goodN
  rw[if_neg (by rw[Prod.mk.injEq]; omega)]
 unfold bytesF at *
 unfold Lib.decodeN
 by_cases c1:n<128
 ·simp only[if_pos c1]at *
  have g0:=g 0 (by simp)
  simp only[List.getD_cons_zero]at g0
  rw[if_pos (by omega),nope _ _ (by omega)]
  exact Prod.ext (by simp only; omega) rfl
 ·simp only[if_neg c1]at *
  by_cases c2:n<2048
  ·simp only[if_pos c2]at *
   have g0:=g 0 (by simp)
   have g1:=g 1 (by simp)
   simp only[List.getD_cons_zero,List.getD_cons_succ]at g0 g1
   simp only[List.length_cons,List.length_nil]
   rw[if_neg (by omega),if_pos (by omega),if_pos (by omega),nope _ _ (by omega)]
   exact Prod.ext (by simp only; omega) rfl
  ·simp only[if_neg c2]at *
   by_cases c3:n<65536
   ·simp only[if_pos c3]at *
    have g0:=g 0 (by simp)
    have g1:=g 1 (by simp)
    have g2:=g 2 (by simp)
    simp only[List.getD_cons_zero,List.getD_cons_succ]at g0 g1 g2
    simp only[List.length_cons,List.length_nil]
    rw[if_neg (by omega),if_neg (by omega),if_pos (by omega),if_pos (by omega),nope _ _ (by omega)]
    exact Prod.ext (by simp only; omega) rfl
   ·simp only[if_neg c3]at *
    have g0:=g 0 (by simp)
    have g1:=g 1 (by simp)
    have g2:=g 2 (by simp)
    have g3:=g 3 (by simp)
    simp only[List.getD_cons_zero,List.getD_cons_succ]at g0 g1 g2 g3
    simp only[List.length_cons,List.length_nil]
    rw[if_neg (by omega),if_neg (by omega),if_neg (by omega),if_pos (by omega),if_pos (by omega),nope _ _ (by omega)]
    exact Prod.ext (by simp only; omega) rfl
def toI (x:UInt8):Int:=x.toNat
set_option maxHeartbeats 4000000 in
theorem decN_bytes (n x y z t:Nat)(hb:x<256)(hb1:y<256)(hb2:z<256)(hb3:t<256)(h:Lib.decodeN n x y z t≠(65533,1)) :
  isF (Lib.decodeN n x y z t).1=true/\(bytesF (Lib.decodeN n x y z t).1).length=(Lib.decodeN n x y z t).2 /\
  ∀k,k<(Lib.decodeN n x y z t).2->(bytesF (Lib.decodeN n x y z t).1).getD k 0=([x,y,z,t].getD k 0:Nat):=by
 unfold Lib.decodeN at h ⊢
 by_cases c1:x<128
 ·simp only[c1,if_true]at h ⊢
  refine⟨by unfold isF; rw[decide_eq_true_eq]; omega,by unfold bytesF; rw[if_pos (by omega)]; rfl,fun k hk=>?_⟩
  have:k=0:=by omega
  subst this
  unfold bytesF
  rw[if_pos (by omega)]
  simp
 ·rw[if_neg c1]at h ⊢
  by_cases c2:x/32=6/\(1<n/\y/64=2)
  ·rw[if_pos c2]at h ⊢
   generalize hc:x%32*64+y%64=c at h ⊢
   by_cases d:c≥128
   ·rw[if_pos d]at h ⊢
    have eb:bytesF (c:Int)=[(x:Int),(y:Int)]:=by
     unfold bytesF
     rw[if_neg (by omega),if_pos (by omega)]
     congr 1
     ·omega
     ·congr 1; omega
    refine⟨by unfold isF; rw[decide_eq_true_eq]; simp only; omega,by simp only[eb]; rfl,fun k hk=>?_⟩
    simp only at hk
    have:k=0∨k=1:=by omega
    rcases this with rfl|rfl<;>simp[eb]
   ·rw[if_neg d]at h
    exact absurd rfl h
  ·rw[if_neg c2]at h ⊢
   by_cases c3:x/16=14/\(1<n/\y/64=2)/\(2<n/\z/64=2)
   ·rw[if_pos c3]at h ⊢
    generalize hc:x%16*4096+y%64*64+z%64=c at h ⊢
    by_cases d:c≥2048/\(c<55296∨(57344<=c/\c<=1114111))
    ·rw[if_pos d]at h ⊢
     have eb:bytesF (c:Int)=[(x:Int),(y:Int),(z:Int)]:=by
      unfold bytesF
      rw[if_neg (by omega),if_neg (by omega),if_pos (by omega)]
      congr 1
      ·omega
      ·congr 1
       ·omega
       ·congr 1; omega
     refine⟨by unfold isF; rw[decide_eq_true_eq]; simp only; omega,by simp only[eb]; rfl,fun k hk=>?_⟩
     simp only at hk
     have:k=0∨k=1∨k=2:=by omega
     rcases this with rfl|rfl|rfl<;>simp[eb]
    ·rw[if_neg d]at h
     exact absurd rfl h
   ·rw[if_neg c3]at h ⊢
    by_cases c4:x/8=30/\(1<n/\y/64=2)/\(2<n/\z/64=2)/\(3<n/\t/64=2)
    ·rw[if_pos c4]at h ⊢
     generalize hc:x%8*262144+y%64*4096+z%64*64+t%64=c at h ⊢
     by_cases d:c≥65536/\(c<55296∨(57344<=c/\c<=1114111))
     ·rw[if_pos d]at h ⊢
      have eb:bytesF (c:Int)=[(x:Int),(y:Int),(z:Int),(t:Int)]:=by
       unfold bytesF
       rw[if_neg (by omega),if_neg (by omega),if_neg (by omega)]
       congr 1
       ·omega
       ·congr 1
        ·omega
        ·congr 1
         ·omega
         ·congr 1; omega
      refine⟨by unfold isF; rw[decide_eq_true_eq]; simp only; omega,by simp only[eb]; rfl,fun k hk=>?_⟩
      simp only at hk
      have:k=0∨k=1∨k=2∨k=3:=by omega
      rcases this with rfl|rfl|rfl|rfl<;>simp[eb]
     ·rw[if_neg d]at h
      exact absurd rfl h
    ·rw[if_neg c4]at h
     exact absurd rfl h
theorem drop_split {L:List UInt8}{i w:Nat}{B:List Int}(hB:B.length=w)(hw:i+w<=L.length)(h:∀k,k<w->B.getD k 0=((L.getD (i+k) 0).toNat:Int)):(L.drop i).map toI=B++(L.drop (i+w)).map toI:=by
 apply List.ext_getElem?
 intro j
 rw[List.getElem?_map,List.getElem?_drop]
 by_cases hj:j<w
 ·have h1:=h j hj
  rw[List.getElem?_append_left (by omega),List.getElem?_eq_getElem (show i+j<L.length by omega),List.getElem?_eq_getElem (show j<B.length by omega)]
  rw[List.getD_eq_getElem?_getD,List.getD_eq_getElem?_getD,List.getElem?_eq_getElem (show i+j<L.length by omega),List.getElem?_eq_getElem (show j<B.length by omega)]at h1
  simp only[Option.getD_some]at h1
  rw[h1]
  rfl
 ·rw[List.getElem?_append_right (by omega),List.getElem?_map,List.getElem?_drop,hB,show i+w+(j-w)=i+j by omega]
theorem scan_bytes (a:ByteArray)(i:Nat)(hi:i<=a.size)(hv:(scan a i).2=a.size):(a.data.toList.drop i).map toI=textN (scan a i).1/\∀x∈(scan a i).1,isF x=true:=by
 have hs:a.data.toList.length=a.size:=Array.length_toList
 by_cases h:i<a.size
 ·by_cases hb:Utf8.decode a i=(65533,1)
  ·rw[scan_bad h hb]at hv
   simp only at hv
   omega
  ·have hp:=dec_pos a i h
   rw[scan_step h hb]at hv ⊢
   obtain⟨ih1,ih2⟩:=scan_bytes a (i+(Utf8.decode a i).2) hp.2 hv
   have db:isF (Utf8.decode a i).1=true/\(bytesF (Utf8.decode a i).1).length=(Utf8.decode a i).2/\∀k,k<(Utf8.decode a i).2->(bytesF (Utf8.decode a i).1).getD k 0=byteN a (i+k):=by
    rw[Lib.decode_at]at hb ⊢
    simp only[get!_byteN]at hb ⊢
    obtain⟨g1,g2,g3⟩:=decN_bytes _ _ _ _ _ (byteN_lt a i) (byteN_lt a (i+1)) (byteN_lt a (i+2)) (byteN_lt a (i+3)) hb
    refine⟨g1,g2,fun k hk=>?_⟩
    rw[g3 k hk]
    have bl:=(bytesF_len (Lib.decodeN (a.size-i) (byteN a i) (byteN a (i+1)) (byteN a (i+2)) (byteN a (i+3))).1).2
    have:k=0∨k=1∨k=2∨k=3:=by omega
    rcases this with rfl|rfl|rfl|rfl<;>simp
   refine⟨?_,fun x hx=>?_⟩
   ·rw[drop_split db.2.1 (by omega) db.2.2,ih1]
    simp[textN]
   ·rcases List.mem_cons.1 hx with rfl|hx
    ·exact db.1
    ·exact ih2 x hx
 ·have:i=a.size:=by omega
  subst this
  rw[scan_end h]
  refine⟨?_,fun x hx=>by cases hx⟩
  rw[List.drop_eq_nil_of_le (by omega)]
  rfl
termination_by a.size-i
theorem strOf_app (a b:List Int):strOfNums a++strOfNums b=strOfNums (a++b):=by
 apply ByteArray.ext
 simp[strOfNums]
theorem strOf_len (a:List Int):(strOfNums a).size=a.length:=by
 show(strOfNums a).data.size=_
 simp[strOfNums]
theorem scan_text:∀(l:List Int),l.all isF=true->scan (strOfNums (textN l)) 0=(l,(strOfNums (textN l)).size)
 | [],_=>by rw[scan_end (by decide)]; rfl
 |n::r,h=>by
  rw[List.all_cons,Bool.and_eq_true]at h
  have ih:=scan_text r h.2
  have e:strOfNums (textN (n::r))=strOfNums (bytesF n)++strOfNums (textN r):=by rw[strOf_app]; rfl
  have d:=dec_enc n h.1 (strOfNums (textN r))
  have bl:=bytesF_len n
  rw[e]
  generalize strOfNums (textN r)=t at *
  have hsz:(strOfNums (bytesF n)++t).size=(bytesF n).length+t.size:=by rw[ByteArray.size_append,strOf_len]
  have hlt:0<(strOfNums (bytesF n)++t).size:=by omega
  unfold goodN at d
  split at d
  ·simp at d
   omega
  ·rename_i hb
   rw[scan_step hlt hb]
   injection d with d1 d2
   have d3:(Utf8.decode (strOfNums (bytesF n)++t) 0).2=(bytesF n).length:=by omega
   have sr:=scan_right (strOfNums (bytesF n)) t 0
   rw[strOf_len,Nat.add_zero,ih]at sr
   rw[d1,d3,Nat.zero_add,sr,hsz]
theorem strOf_toI (s:ByteArray):strOfNums (s.data.toList.map toI)=s:=by
 apply ByteArray.ext
 simp[strOfNums,toI,Function.comp_def]
end Go.Proofs.YtcgmpcbkndpmbaaGreatDoor

end
section
open Go Go.Proofs Go.Pw Go.RowKit
namespace Go.Proofs.YtcgmpcbkndpmbaaGreatDoor
set_option maxRecDepth 4000
set_option linter.unusedVariables false
set_option linter.unusedSimpArgs false
attribute [local go_sem] Nat.le_refl Tryz.results35 encI_len
theorem enc_bytes (n:Int)(h:isF n=true):Utf8.encode n=strOfNums (bytesF n):=by
 have hv:Utf8.valid n=true:=by
  unfold isF at h
  simp only[decide_eq_true_eq]at h
  unfold Utf8.valid
  simp only[Bool.or_eq_true,Bool.and_eq_true,decide_eq_true_eq]
  omega
 unfold isF at h
 simp only[decide_eq_true_eq]at h
 have hb:∀(a:Nat) (b:Int),(a:Int)=b->UInt8.ofNat a=UInt8.ofNat b.toNat:=fun a b e=>by rw[<-e]; rfl
 unfold Utf8.encode bytesF strOfNums
 simp only[hv,if_true]
 by_cases c1:n<128
 ·rw[if_pos (by omega),if_pos c1]
  simp only[List.map_cons,List.map_nil]
 ·rw[if_neg (by omega),if_neg c1]
  by_cases c2:n<2048
  ·rw[if_pos (by omega),if_pos c2]
   simp only[List.map_cons,List.map_nil]
   rw[hb (0xC0+n.toNat/64) (192+n/64) (by omega),hb (0x80+n.toNat%64) (128+n%64) (by omega)]
  ·rw[if_neg (by omega),if_neg c2]
   by_cases c3:n<65536
   ·rw[if_pos (by omega),if_pos c3]
    simp only[List.map_cons,List.map_nil]
    rw[hb (0xE0+n.toNat/4096) (224+n/4096) (by omega),hb (0x80+n.toNat/64%64) (128+n/64%64) (by omega),hb (0x80+n.toNat%64) (128+n%64) (by omega)]
   ·rw[if_neg (by omega),if_neg c3]
    simp only[List.map_cons,List.map_nil]
    rw[hb (0xF0+n.toNat/262144) (240+n/262144) (by omega),hb (0x80+n.toNat/4096%64) (128+n/4096%64) (by omega),hb (0x80+n.toNat/64%64) (128+n/64%64) (by omega),hb (0x80+n.toNat%64) (128+n%64) (by omega)]
theorem encF_isF {n:Int}(h:isF n=true):encF n=strOfNums (bytesF n):=by unfold encF; rw[if_pos h,enc_bytes n h]
theorem textN_snoc (l:List Int)(n:Int):textN (l++[n])=textN l++bytesF n:=by unfold textN; simp
theorem enc_snoc {n:Int}(l:List Int)(h:isF n=true):strOfNums (textN l)++encF n=strOfNums (textN (l++[n])):=by rw[encF_isF h,strOf_app,textN_snoc]
theorem dec_isF {s:ByteArray}{i:Nat}(h:i<s.size)(hb:Utf8.decode s i≠(65533,1)):isF ((Utf8.decode s i).1:Int)=true:=by
 rw[Lib.decode_at]at hb ⊢
 simp only[get!_byteN]at hb ⊢
 exact(decN_bytes _ _ _ _ _ (byteN_lt s i) (byteN_lt s (i+1)) (byteN_lt s (i+2)) (byteN_lt s (i+3)) hb).1
theorem goodN_isF {s:ByteArray}{i:Nat}(h:i<s.size)(h2:(goodN (Utf8.decode s i)).2≠0):isF (goodN (Utf8.decode s i)).1=true:=by
 unfold goodN at h2 ⊢
 split
 ·rename_i e; rw[if_pos e]at h2; exact absurd rfl h2
 ·rename_i e; exact dec_isF h e
theorem ptS_isF:∀b:Fin 256,0<=Lib.indexByte ltS.data.toList b.1.toUInt8->isF (bt ptS (Lib.indexByte ltS.data.toList b.1.toUInt8))=true:=by decide +kernel
theorem pair_isF {n m:Int}(h:0<=pairF n m):isF (pairF n m)=true:=by
 unfold pairF at h ⊢
 split
 ·rename_i hc; unfold isF; simp only[decide_eq_true_eq]; omega
 ·rename_i hc; rw[if_neg hc]at h; omega
theorem escP_isF {s:ByteArray}{i:Nat}(h:(escP s i).2.1=0):isF (escP s i).1=true:=by
 unfold escP at h ⊢
 split
 ·rename_i hh
  have hb:=bt_range s (i+1:Nat)
  have:=ptS_isF ⟨(bt s (i+1:Nat)).toNat,by omega⟩ (hasF_ix hh)
  exact this
 ·rename_i hh
  rw[if_neg hh]at h
  split
  ·rename_i h1
   rw[if_pos h1]at h
   split
   ·rename_i h2
    rw[if_pos h2]at h
    unfold esc2 at h ⊢
    split
    ·assumption
    ·rename_i h3
     rw[if_neg h3]at h
     split
     ·rename_i h4; exact pair_isF h4.2.2.2
     ·rename_i h4; rw[if_neg h4]at h; exact absurd h (show ¬(3:Int)=0 by decide)
   ·rename_i h2; rw[if_neg h2]at h; exact absurd h (show ¬(1:Int)=0 by decide)
  ·rename_i h1; rw[if_neg h1]at h; exact absurd h (show ¬(1:Int)=0 by decide)
def ptsF (s:ByteArray):Nat->Nat->List Int->Int×List Int×Nat
 |0,i,out=>(1,out,i)
 |f+1,i,out=>
  if hasF s qtS i=true then(0,out,i+1) else
  if i=s.size∨bt s i<32 then(1,out,i) else
  if hasF s bsS i=true then(if(escP s i).2.1=0 then ptsF s f (escP s i).2.2 (out++[(escP s i).1]) else((escP s i).2.1,out,(escP s i).2.2)) else
  if(goodN (Utf8.decode s i)).2=0 then(2,out,i) else ptsF s f (i+(goodN (Utf8.decode s i)).2.toNat) (out++[(goodN (Utf8.decode s i)).1])
theorem ptsF_txt (s:ByteArray):∀f i out,i<=s.size->out.all isF=true->txtF s f i (strOfNums (textN out))=((ptsF s f i out).1,strOfNums (textN (ptsF s f i out).2.1),(ptsF s f i out).2.2)/\(ptsF s f i out).2.1.all isF=true
 |0,i,out,hi,h=>⟨rfl,h⟩
 |f+1,i,out,hi,h=>by
  rw[txtF,ptsF]
  by_cases h1:hasF s qtS i=true
  ·rw[if_pos h1,if_pos h1]; exact⟨rfl,h⟩
  rw[if_neg h1,if_neg h1]
  by_cases h2:i=s.size∨bt s i<32
  ·rw[if_pos h2,if_pos h2]; exact⟨rfl,h⟩
  rw[if_neg h2,if_neg h2]
  have hlt:i<s.size:=by omega
  by_cases h3:hasF s bsS i=true
  ·rw[if_pos h3,if_pos h3]
   by_cases h4:(escP s i).2.1=0
   ·rw[if_pos h4,if_pos h4,enc_snoc out (escP_isF h4)]
    exact ptsF_txt s f _ _ (escP_range s i hlt).2.1 (by rw[List.all_append,h]; simp[escP_isF h4])
   ·rw[if_neg h4,if_neg h4]; exact⟨rfl,h⟩
  rw[if_neg h3,if_neg h3,decF_tail hlt]
  by_cases h5:(goodN (Utf8.decode s i)).2=0
  ·rw[if_pos h5,if_pos h5]; exact⟨rfl,h⟩
  rw[if_neg h5,if_neg h5,enc_snoc out (goodN_isF hlt h5)]
  have hw:i+(goodN (Utf8.decode s i)).2.toNat<=s.size:=by
   unfold goodN
   split
   ·simp only; omega
   ·have:=dec_pos s i hlt
    simp only[Int.toNat_natCast]
    exact this.2
  exact ptsF_txt s f _ _ hw (by rw[List.all_append,h]; simp[goodN_isF hlt h5])
def ptsT (s:ByteArray)(i:Nat):Int×List Int×Nat:=ptsF s (s.size-i) (i+1) []
theorem ptsT_txt (s:ByteArray)(i:Nat)(hi:i<s.size):txtT s i=((ptsT s i).1,strOfNums (textN (ptsT s i).2.1),(ptsT s i).2.2)/\(ptsT s i).2.1.all isF=true:=ptsF_txt s (s.size-i) (i+1) [] (by omega) rfl
theorem isT_pts' {l:List Int}(h:l.all isF=true):isT (strOfNums (textN l))=true:=by
 unfold isT
 rw[scan_text l h]
 simp
theorem txtT_isT {s:ByteArray}{i:Nat}(hi:i<s.size):isT (txtT s i).2.1=true:=by
 obtain⟨h1,h2⟩:=ptsT_txt s i hi
 rw[h1]
 exact isT_pts' h2
def rtxR (R:Int×List Int×Nat):PV:= .tup [.sl (encI (if R.1=0 then R.2.1 else[])),vI R.2.2,vI R.1]
theorem firstG (s:ByteArray)(i:Nat)(h:i<s.size):firstF s i 4 1=goodN (Utf8.decode s i):=first_decode s i h
set_option maxHeartbeats 16000000 in
theorem rtext_ok5 (s:ByteArray)(i:Nat)(hi:i<s.size)(hs:s.size<=100000):Ok Tryz.prog 35 [vS s,vI i] (rtxR (ptsT s i)):=by
 refine Ok.of_pwp (by kernel_rfl) Tryz.func35 rfl (by kernel_rfl) (by kernel_rfl) ?_
 generalize hF:ptsT s i=F
 unfold ptsT at hF
 simp -implicitDefEqProofs (disch:=omega) only[go_sem,simprocAttr]
 refine p_loop (ι:={ p:Nat×List Int×Nat // i<p.1/\p.1<=s.size/\p.2.1.length<=p.1/\∃f,s.size<p.1+f/\ptsF s f p.1 p.2.1=F }) (fun p=>⟨[(7,rowI p.1.2.2 p.1.2.1),(1,vI p.1.1),(0,vS s)],[],tokI p.1.2.2 3 p.1.2.1,0,p.1.2.2+1⟩) (fun p=>s.size+1-p.1.1) ⟨(i+1,[],0),by simp only; omega,by simp only; omega,by simp,⟨s.size-i,by simp only; omega,hF⟩⟩ ?_ ?_
 ·simp only[rowI,tokI]
  constructor<;>simp only[go_sem,simprocAttr,decide_eq_true_eq,Int.natCast_add,Int.natCast_one]<;>try ((repeat' apply And.intro)<;>first|rfl|omega|(congr 3; omega)|(congr 2; omega))
 ·rintro⟨⟨j,out,k⟩,h1,h2,h3,f,hf,h5⟩
  simp only at h1 h2 h3 hf h5 ⊢
  obtain⟨f,rfl⟩:∃g,f=g+1:=⟨f-1,by omega⟩
  rw[ptsF]at h5
  by_cases hj:j=s.size
  ·subst hj
   rw[if_neg (fun h=>by have:=hasF_lt h; omega),if_pos (.inl rfl)]at h5
   subst h5
   cases out<;>simp only[rowI,tokI]<;>(simp -implicitDefEqProofs (disch:=omega) only[go_sem,simprocAttr])<;>rfl
  ·have hlt:j<s.size:=by omega
   have hq:hasF s qtS j=decide (bt s j=34):=by
    rw[<-isB_hasF s 34 j]; unfold isB; rw[decide_eq_true hlt,Bool.true_and]; rfl
   by_cases hb:bt s j<32
   ·rw[if_neg (by rw[hq,decide_eq_false (by omega)]; decide),if_pos (.inr hb)]at h5
    subst h5
    cases out<;>simp only[rowI,tokI]<;>(simp -implicitDefEqProofs (disch:=omega) only[go_sem,simprocAttr,decide_eq_true hb])<;>rfl
   by_cases hb2:bt s j=34
   ·rw[if_pos (by rw[hq]; exact decide_eq_true hb2)]at h5
    subst h5
    cases out<;>simp only[rowI,tokI]<;>(simp -implicitDefEqProofs (disch:=omega) only[go_sem,simprocAttr,decide_eq_false hb,decide_eq_true hb2])<;>rfl
   rw[if_neg (by rw[hq,decide_eq_false hb2]; decide),if_neg (by omega)]at h5
   have hbs:hasF s bsS j=decide (bt s j=92):=by
    rw[<-isB_hasF s 92 j]; unfold isB; rw[decide_eq_true hlt,Bool.true_and]; rfl
   by_cases hb3:bt s j=92
   ·rw[if_pos (by rw[hbs]; exact decide_eq_true hb3)]at h5
    have ce:=rescape_ok s j hlt (by omega)
    have hr:=escP_range s j hlt
    by_cases he:(escP s j).2.1=0
    ·rw[if_pos he]at h5
     have hr2:=hr.2.2 he
     generalize escP s j=E at *
     obtain⟨e1,e2,e3⟩:=E
     simp only at he hr hr2 h5 ce
     subst he
     cases out with
     |nil=>
      simp only[rowI,tokI]
      simp -implicitDefEqProofs (disch:=omega) only[go_sem,simprocAttr,decide_eq_false hb,decide_eq_false hb2,decide_eq_true hb3]
      with_reducible refine CallOk.of ce rfl ?_
      simp -implicitDefEqProofs (disch:=omega) only[go_sem,simprocAttr]
      refine⟨⟨(e3,[e1],k+1+10+4+4+10+2+3),by simp only; omega,hr.2.1,by simp only[List.length_singleton]; omega,⟨f,by simp only; omega,by simpa using h5⟩⟩,by simp only; omega,?_⟩
      simp only[rowI,tokI,<-encI_one]
      constructor<;>simp only[go_sem,simprocAttr,decide_eq_true_eq,Int.natCast_add,List.length_singleton,ite_self]<;>try ((repeat' apply And.intro)<;>first|rfl|omega|(congr 3; omega)|(congr 2; omega))
     |cons x q=>
      simp only[List.length_cons]at h3
      have hql:q.length<=1000000:=by omega
      simp only[rowI,tokI]
      simp -implicitDefEqProofs (disch:=omega) only[go_sem,simprocAttr,decide_eq_false hb,decide_eq_false hb2,decide_eq_true hb3]
      with_reducible refine CallOk.of ce rfl ?_
      simp -implicitDefEqProofs (disch:=omega) only[go_sem,simprocAttr]
      refine⟨⟨(e3,x::(q++[e1]),k),by simp only; omega,hr.2.1,by simp only[List.length_cons,List.length_append,List.length_nil]; omega,⟨f,by simp only; omega,by simpa using h5⟩⟩,by simp only; omega,?_⟩
      simp only[rowI,tokI]
      constructor<;>simp only[go_sem,simprocAttr,decide_eq_true_eq,Int.natCast_add,encI_snoc,List.cons_append,List.length_cons,List.length_append,List.length_singleton]<;>try ((repeat' apply And.intro)<;>first|rfl|omega|(congr 3; omega)|(congr 2; omega))
    ·rw[if_neg he]at h5
     subst h5
     unfold rtxR
     rw[if_neg he]
     cases out<;>simp only[rowI,tokI]<;>(simp -implicitDefEqProofs (disch:=omega) only[go_sem,simprocAttr,decide_eq_false hb,decide_eq_false hb2,decide_eq_true hb3])<;>(with_reducible refine CallOk.of ce rfl ?_)<;>(simp -implicitDefEqProofs (disch:=omega) only[go_sem,simprocAttr,decide_eq_false he])<;>rfl
   ·rw[if_neg (by rw[hbs,decide_eq_false hb3]; decide)]at h5
    have cf:=first_ok s j (by omega) (by omega) (by omega)
    rw[firstG s j hlt]at cf
    have hw:(goodN (Utf8.decode s j)).2≠0->1<=(goodN (Utf8.decode s j)).2/\j+(goodN (Utf8.decode s j)).2<=s.size:=fun h=>by
     unfold goodN at h ⊢
     split
     ·rename_i e; rw[if_pos e]at h; exact absurd rfl h
     ·have:=dec_pos s j hlt
      simp only
      omega
    generalize goodN (Utf8.decode s j)=E at *
    obtain⟨e1,e2⟩:=E
    simp only at hw h5 cf
    by_cases he:e2=0
    ·rw[if_pos he]at h5
     subst h5
     subst he
     cases out<;>simp only[rowI,tokI]<;>(simp -implicitDefEqProofs (disch:=omega) only[go_sem,simprocAttr,decide_eq_false hb,decide_eq_false hb2,decide_eq_false hb3])<;>(with_reducible refine CallOk.of cf rfl ?_)<;>(simp -implicitDefEqProofs (disch:=omega) only[go_sem,simprocAttr])<;>rfl
    ·rw[if_neg he]at h5
     obtain⟨w1,w2⟩:=hw he
     obtain⟨w,rfl⟩:∃w:Nat,e2=w:=⟨e2.toNat,by omega⟩
     rw[Int.toNat_natCast]at h5
     cases out with
     |nil=>
      simp only[rowI,tokI]
      simp -implicitDefEqProofs (disch:=omega) only[go_sem,simprocAttr,decide_eq_false hb,decide_eq_false hb2,decide_eq_false hb3]
      with_reducible refine CallOk.of cf rfl ?_
      simp -implicitDefEqProofs (disch:=omega) only[go_sem,simprocAttr,decide_eq_false he]
      refine⟨⟨(j+w,[e1],k+1+10+4+4+8+2+3),by simp only; omega,by simp only; omega,by simp only[List.length_singleton]; omega,⟨f,by simp only; omega,by simpa using h5⟩⟩,by simp only; omega,?_⟩
      simp only[rowI,tokI,<-encI_one]
      constructor<;>simp only[go_sem,simprocAttr,decide_eq_true_eq,Int.natCast_add,List.length_singleton,ite_self]<;>try ((repeat' apply And.intro)<;>first|rfl|omega|(congr 3; omega)|(congr 2; omega))
     |cons x q=>
      simp only[List.length_cons]at h3
      have hql:q.length<=1000000:=by omega
      simp only[rowI,tokI]
      simp -implicitDefEqProofs (disch:=omega) only[go_sem,simprocAttr,decide_eq_false hb,decide_eq_false hb2,decide_eq_false hb3]
      with_reducible refine CallOk.of cf rfl ?_
      simp -implicitDefEqProofs (disch:=omega) only[go_sem,simprocAttr,decide_eq_false he]
      refine⟨⟨(j+w,x::(q++[e1]),k),by simp only; omega,by simp only; omega,by simp only[List.length_cons,List.length_append,List.length_nil]; omega,⟨f,by simp only; omega,by simpa using h5⟩⟩,by simp only; omega,?_⟩
      simp only[rowI,tokI]
      constructor<;>simp only[go_sem,simprocAttr,decide_eq_true_eq,Int.natCast_add,encI_snoc,List.cons_append,List.length_cons,List.length_append,List.length_singleton]<;>try ((repeat' apply And.intro)<;>first|rfl|omega|(congr 3; omega)|(congr 2; omega))
end Go.Proofs.YtcgmpcbkndpmbaaGreatDoor

end
