/-
  Contracts and plain laws on the way to the statement; each says its own conditions.
-/
import Derived.Test.YtcgmpcbkndpmbaaGreatDoorGE7
import Derived.Test.YtcgmpcbkndpmbaaGreatDoorGE3
import Derived.Lib.AppendZeros
import Derived.WalkKit
import Derived.Lib.Walk
import Derived.Lib.SliceRun
import Derived.ChangeSlices
import Derived.ChangeArms
import Derived.OpenShut
section
open Go Go.Proofs Go.Pw Go.RowKit
namespace Go.Proofs.YtcgmpcbkndpmbaaGreatDoor
set_option maxRecDepth 4000
set_option linter.unusedVariables false
set_option linter.unusedSimpArgs false
attribute [local go_sem] Nat.le_refl Tryz.results76
def insAt {α:Type}(l:List α)(i:Nat)(x:α):List α:=l.take i++[x]++l.drop i
theorem insAt_len {α:Type}{l:List α}{i:Nat}(h:i<=l.length)(x:α):(insAt l i x).length=l.length+1:=by
 unfold insAt; simp; omega
def putAll (ks:List ByteArray)(is:List V):List ByteArray->List V->Option (List ByteArray×List V)
 |k::r,v::vs=>if foundT ks k=true then none else putAll (insAt ks (posT ks k) k) (insAt is (posT ks k) v) r vs
 |_,_=>some (ks,is)
def objR:Option (List ByteArray×List V)->PV
 |some (ks,is)=> .tup [.agg (cellsV (.mk 5 false 0 ByteArray.empty is ks)),vI 0]
 |none=> .tup [.agg (cellsV vZero),vI 5]
def objF (keys:List ByteArray)(items:List V):PV:=
 if keys.length≠items.length then .tup [.agg (cellsV vZero),vI 1]
 else if(keys.any fun s=> !isT s)=true then .tup [.agg (cellsV vZero),vI 2]
 else objR (putAll [] [] keys items)
def heapM (base:Option Nat)(E:TypeId)(cs:List PV):List (Nat×PObj):=
 match base with
 |none=>[]
 |some id=>[(id,.box E cs)]
theorem heapM_some (id:Nat)(E:TypeId)(cs:List PV):heapM (some id) E cs=[(id,.box E cs)]:=rfl
theorem heapM_none (E:TypeId)(cs:List PV):heapM none E cs=[]:=rfl
theorem insArg_some (id n c:Nat):insArg (some id) n c = .ms id 0 n c:=rfl
theorem insArg_none (n c:Nat):insArg none n c=vNil:=rfl
structure ObjI where
 i:Nat
 ks:List ByteArray
 is:List V
 bK:Option Nat
 cK:Nat
 rK:List PV
 bI:Option Nat
 cI:Nat
 rI:List PV
 nx:Nat
 nt:Nat
structure ObjOk (keys:List ByteArray) (items:List V) (rr:PV) (p:ObjI):Prop where
 hi:p.i<=keys.length
 lk:p.ks.length=p.i
 li:p.is.length=p.i
 sort:SortT p.ks
 res:objR (putAll p.ks p.is (keys.drop p.i) (items.drop p.i))=rr
 nK:p.bK=none->p.cK=0
 nI:p.bI=none->p.cI=0
 cK:p.i<=p.cK
 cI:p.i<=p.cI
 mK:p.cK<=maxLen
 mI:p.cI<=maxLen
 rK:p.rK.length=(p.cK-p.i)*1
 rI:p.rI.length=(p.cI-p.i)*6
 idK:∀id,p.bK=some id->12<id/\id<p.nx
 idI:∀id,p.bI=some id->12<id/\id<p.nx
 ne:∀j k,p.bK=some j->p.bI=some k->j≠k
 nx:12<p.nx
def objH (p:ObjI):List (Nat×PObj):=heapM p.bK 9 (flatT p.ks++p.rK)++heapM p.bI 33 (flatV p.is++p.rI)
def objS (keys:List ByteArray)(items:List V)(p:ObjI):PS:=
 ⟨[(25,vI p.i),(24,vI keys.length),(23,.sl (encT keys)),(0,.sl (encT keys)),(1,.sl (encV items)),(4,.ptr 0 0),(5,vI 0),(6,.ptr 12 0)],
  (12,.box 33 [vI 5,vB false,vI 0,vS ByteArray.empty,insArg p.bI p.i p.cI,insArg p.bK p.i p.cK])::(0,.box 33 [vI 0,vB false,vI 0,vS ByteArray.empty,vNil,vNil])::objH p,[],p.nx,p.nt⟩
theorem lkp_app {α:Type}(l m:List (Nat×α))(i:Nat):lkp (l++m) i=(lkp l i).or (lkp m i):=by
 induction l with
 |nil=>rfl
 |cons x r ih=>
  obtain⟨k,v⟩:=x
  rw[List.cons_append,lkp_cons,lkp_cons]
  split
  ·rfl
  ·exact ih
theorem heapM_lkp {base:Option Nat}{E:TypeId}{cs:List PV}{j:Nat}{o:PObj}(h:lkp (heapM base E cs) j=some o):base=some j/\o = .box E cs:=by
 cases base with
 |none=>cases h
 |some id=>
  rw[heapM_some,lkp_cons]at h
  split at h
  ·rename_i e
   subst e
   exact⟨rfl,(Option.some.inj h).symm⟩
  ·cases h
theorem heapM_own (id:Nat)(E:TypeId)(cs:List PV):lkp (heapM (some id) E cs) id=some (.box E cs):=by simp[heapM,lkp]
section
set_option linter.unusedSectionVars false
variable {keys:List ByteArray} {items:List V} {rr:PV} {p:ObjI} (h:ObjOk keys items rr p)
include h
theorem ObjOk.hK {id:Nat}(e:p.bK=some id):lkp (objH p) id=some (.box 9 (flatT p.ks++p.rK)):=by
 unfold objH
 rw[lkp_app,e,heapM_own]
 rfl
theorem ObjOk.hI {id:Nat}(e:p.bI=some id):lkp (objH p) id=some (.box 33 (flatV p.is++p.rI)):=by
 unfold objH
 rw[lkp_app]
 cases hk:lkp (heapM p.bK 9 (flatT p.ks++p.rK)) id with
 |none=>rw[e,heapM_own]; rfl
 |some o=>
  obtain⟨e1,_⟩:=heapM_lkp hk
  exact absurd rfl (h.ne id id e1 e)
theorem ObjOk.fzK {a b:PObj}:fzH Tryz.prog ((12,a)::(0,b)::objH p) (insArg p.bK p.i p.cK)=some (.sl (encT p.ks)):=by
 cases e:p.bK with
 |none=>
  have h0:=h.nK e
  have:=h.cK
  have hks:p.ks=[]:=List.length_eq_zero_iff.1 (by rw[h.lk]; omega)
  rw[hks]
  rfl
 |some id=>
  have hl:lkp ((12,a)::(0,b)::objH p) id=some (.box 9 (flatT p.ks++p.rK)):=by
   have:=h.idK id e
   rw[lkp_cons,if_neg (by omega),lkp_cons,if_neg (by omega)]
   exact h.hK e
  rw[insArg_some]
  simp only[fzH,hl,sz9]
  have h1:0<1/\0+p.i*1<=(flatT p.ks++p.rK).length:=⟨by decide,by rw[List.length_append,flatT_len,h.lk]; omega⟩
  rw[if_pos h1,List.drop_zero,<-h.lk,chunksT,fz_encT]
  rfl
theorem ObjOk.fzI {a b:PObj}:fzH Tryz.prog ((12,a)::(0,b)::objH p) (insArg p.bI p.i p.cI)=some (.sl (encV p.is)):=by
 cases e:p.bI with
 |none=>
  have h0:=h.nI e
  have:=h.cI
  have hks:p.is=[]:=List.length_eq_zero_iff.1 (by rw[h.li]; omega)
  rw[hks,encV_nil]
  rfl
 |some id=>
  have hl:lkp ((12,a)::(0,b)::objH p) id=some (.box 33 (flatV p.is++p.rI)):=by
   have:=h.idI id e
   rw[lkp_cons,if_neg (by omega),lkp_cons,if_neg (by omega)]
   exact h.hI e
  rw[insArg_some]
  simp only[fzH,hl,sz33]
  have h1:0<6/\0+p.i*6<=(flatV p.is++p.rI).length:=⟨by decide,by rw[List.length_append,flatV_len,h.li]; omega⟩
  rw[if_pos h1,List.drop_zero,<-h.li,chunksV,fz_encV]
  rfl
end
theorem fzHA_ins {P:Program}{h:List (Nat×PObj)}(base:Option Nat)(n c:Nat):fzHA P h (insArg base n c)=fzH P h (insArg base n c):=by cases base<;>rfl
theorem fzH_val {P:Program}{h:List (Nat×PObj)}(v:Value):fzH P h (.val v)=fz (.val v):=rfl
theorem drop_consG {α:Type}{a:List α}{d:α}{k:Nat}(h:k<a.length):a.drop k=a.getD k d::a.drop (k+1):=by
 rw[List.drop_eq_getElem_cons h,List.getD_eq_getElem?_getD,List.getElem?_eq_getElem h]; rfl
theorem ins_sort {k:ByteArray}:∀{l:List ByteArray},SortT l->foundT l k=false->SortT (insAt l (posT l k) k)
 | [],_,_=>by simp[insAt,SortT]
 |x::r,h,hf=>by
  have h':=List.pairwise_cons.1 h
  cases hx:ltT x k with
  |true=>
   have hp:posT (x::r) k=posT r k+1:=by unfold posT; rw[List.takeWhile_cons,hx]; rfl
   have hf':foundT r k=false:=by
    unfold foundT at hf ⊢
    rw[hp]at hf
    simpa using hf
   rw[hp]
   have ih:=ins_sort h'.2 hf'
   have e:insAt (x::r) (posT r k+1) k=x::insAt r (posT r k) k:=rfl
   rw[e]
   refine List.pairwise_cons.2 ⟨fun y hy=>?_,ih⟩
   unfold insAt at hy
   rcases List.mem_append.1 hy with hy|hy
   ·rcases List.mem_append.1 hy with hy|hy
    ·exact h'.1 y (List.mem_of_mem_take hy)
    ·rw[List.mem_singleton.1 hy]; exact hx
   ·exact h'.1 y (List.mem_of_mem_drop hy)
  |false=>
   have hp:posT (x::r) k=0:=by unfold posT; rw[List.takeWhile_cons,hx]; rfl
   rw[hp]
   unfold foundT at hf
   rw[hp]at hf
   have hne:¬x=k:=by simpa using hf
   have hlt:ltT k x=true:=by
    rcases ltT_tri x k with h|h|h
    ·rw[hx]at h; cases h
    ·exact absurd h hne
    ·exact h
   have e:insAt (x::r) 0 k=k::x::r:=rfl
   rw[e]
   refine List.pairwise_cons.2 ⟨fun y hy=>?_,h⟩
   rcases List.mem_cons.1 hy with rfl|hy
   ·exact hlt
   ·exact ltT_trans hlt (h'.1 y hy)
set_option maxHeartbeats 8000000 in
theorem object_ok (keys:List ByteArray)(items:List V)(hf:fewT keys)(hl:keys.length<=1000000)(hi:items.length<=1000000):Ok Tryz.prog 76 [.sl (encT keys),.sl (encV items)] (objF keys items):=by
 refine Ok.of_pwpH (bar:=oneBar 13 8) (by kernel_rfl) Tryz.func76 rfl (by kernel_rfl) (by kernel_rfl) ?_
 unfold objF
 by_cases h1:keys.length=items.length
 ·rw[if_neg (by simpa using h1)]
  have hd:decide ((keys.length:Int)=(items.length:Int))=true:=decide_eq_true (by omega)
  simp -implicitDefEqProofs (disch:=omega) only[go_sem,simprocAttr,hd]
  with_reducible refine CallOk.of (contS_ok keys hf (by omega)) rfl ?_
  cases hc:keys.any (fun s=> !isT s)with
  |true=>
   rw[if_pos rfl]
   simp -implicitDefEqProofs (disch:=omega) only[go_sem,simprocAttr,encV_nil,encT_nil,vZero,outH,fzHAs,fzHA,fzHL,fzH,cellsV]
  |false=>
   rw[if_neg (by decide)]
   generalize hr:objR (putAll [] [] keys items)=rr
   simp -implicitDefEqProofs (disch:=omega) only[go_sem,simprocAttr,encV_nil,encT_nil,vZero]
   refine p_loop (ι:={ p:ObjI // ObjOk keys items rr p }) (fun p=>objS keys items p.1) (fun p=>keys.length-p.1.i)
    ⟨⟨0,[],[],none,0,[],none,0,[],15,15⟩,⟨Nat.zero_le _,rfl,rfl,List.Pairwise.nil,hr,fun _=>rfl,fun _=>rfl,Nat.le_refl _,Nat.le_refl _,Nat.zero_le _,Nat.zero_le _,rfl,rfl,fun _ h=>(by cases h),fun _ h=>(by cases h),fun _ _ h=>(by cases h),by decide⟩⟩ ?_ ?_
   ·simp only[objS,objH,heapM_none,insArg_none,List.nil_append]
    constructor<;>simp only[go_sem,simprocAttr,decide_eq_true_eq,Int.natCast_zero]<;>try ((repeat' apply And.intro)<;>first|rfl|omega|(congr 3; omega)|(congr 2; omega))
   ·rintro⟨p,hp⟩
    simp only[objS]
    simp -implicitDefEqProofs (disch:=omega) only[go_sem,simprocAttr,encV_nil,encT_nil,vZero]
    with_reducible refine ifK_split (fun hlt=>?_) (fun hge=>?_)
    ·have hpi:=hp.hi
     have hpnx:=hp.nx
     have hlt':p.i<keys.length:=by omega
     simp -implicitDefEqProofs (disch:=omega) only[go_sem,simprocAttr,encV_nil,encT_nil,vZero]
     refine CallOk.ofI (OkI.frozen (st:=⟨[],_,_,_,_⟩) (bs_ok p.ks (keys.getD p.i ByteArray.empty) hp.sort (by rw[hp.lk]; omega)) ?_ rfl) rfl rfl rfl rfl ?_
     ·simp only[fzHAs,fzHA_ins,hp.fzK]
      rfl
     ·rintro r st1 ⟨rfl,rfl⟩
      have ek:=drop_consG (d:=ByteArray.empty) hlt'
      have ei:=drop_consG (a:=items) (d:=default) (k:=p.i) (by omega)
      have hres:=hp.res
      rw[ek,ei,putAll]at hres
      simp -implicitDefEqProofs (disch:=omega) only[go_sem,simprocAttr,encV_nil,encT_nil,vZero]
      with_reducible refine ifK_bsplit (fun hfd=>?_) (fun hnf=>?_)
      ·rw[if_pos hfd]at hres
       rw[<-hres,objR]
       simp -implicitDefEqProofs (disch:=omega) only[go_sem,simprocAttr,encV_nil,encT_nil,vZero,outH,fzHAs,fzHA,fzHL,fzH,cellsV]
      ·rw[if_neg (by rw[hnf]; decide)]at hres
       generalize hk:keys.getD p.i ByteArray.empty=k at *
       have hple:=posT_le p.ks k
       rw[hp.lk]at hple
       simp -implicitDefEqProofs (disch:=omega) only[go_sem,simprocAttr,encV_nil,encT_nil,vZero]
       refine CallOk.ofI (OkI.insert (st:=⟨[],_,_,_,_⟩) (tk:=_) (by kernel_rfl) insS_roads rfl (by intro u hu; simp[Value.cells]at hu; subst hu; rfl) (by decide) (x:=[vS k]) rfl ?_ p.bK p.i p.cK (posT p.ks k) (flatT p.ks) p.rK ?_ hp.rK hple hp.cK hp.mK (by omega) (by unfold maxLen; omega) hp.nK ?_ ((12,.box 33 [vI 5,vB false,vI 0,vS ByteArray.empty,insArg p.bI p.i p.cI,insArg p.bK p.i p.cK])::(0,.box 33 [vI 0,vB false,vI 0,vS ByteArray.empty,vNil,vNil])::heapM p.bI 33 (flatV p.is++p.rI)) ?_) rfl rfl rfl rfl ?_
       ·simp only[upd,lkp,if_true]
       ·rw[flatT_len,hp.lk,Nat.mul_one]
       ·intro id e
        have:=hp.idK id e
        show lkp ((12,_)::(0,_)::objH p) id=_
        rw[lkp_cons,if_neg (by omega),lkp_cons,if_neg (by omega)]
        exact hp.hK e
       ·intro j o h
        show lkp ((12,_)::(0,_)::objH p) j=some o/\_
        rw[lkp_cons,lkp_cons]at h ⊢
        split at h
        ·rename_i e
         rw[if_pos e]
         exact⟨h,fun e'=>by have:=hp.idK _ e'; omega⟩
        ·rename_i e
         rw[if_neg e]
         split at h
         ·rename_i e0
          rw[if_pos e0]
          exact⟨h,fun e'=>by have:=hp.idK _ e'; omega⟩
         ·rename_i e0
          rw[if_neg e0]
          obtain⟨e1,rfl⟩:=heapM_lkp h
          exact⟨hp.hI e1,fun e'=>hp.ne _ _ e' e1 rfl⟩
       ·rintro r st1 ⟨cK',rK',q1,q2,q3,q4,rfl,rfl⟩
        simp -implicitDefEqProofs (disch:=omega) only[go_sem,simprocAttr,encV_nil,encT_nil,vZero]
        refine p_bar (by kernel_rfl) ?_
        have hli:=hp.li
        simp -implicitDefEqProofs (disch:=omega) only[go_sem,simprocAttr,encV_nil,encT_nil,vZero]
        refine CallOk.ofI (OkI.insert (st:=⟨[],_,_,_,_⟩) (tk:=_) (by kernel_rfl) insV_roads rfl (by intro u hu; simp[Value.cells]at hu; rcases hu with rfl|rfl|rfl|rfl|rfl|rfl<;>rfl) (by decide) (x:=cellsV (items.getD p.i default)) rfl ?_ p.bI p.i p.cI (posT p.ks k) (flatV p.is) p.rI ?_ hp.rI hple hp.cI hp.mI (by omega) (by unfold maxLen; omega) hp.nI ?_ ((p.nx+1+5+3+9+1+5,.box 9 ((flatT p.ks).take (posT p.ks k*1)++[vS k]++(flatT p.ks).drop (posT p.ks k*1)++rK'))::(12,.box 33 [vI 5,vB false,vI 0,vS ByteArray.empty,insArg p.bI p.i p.cI,.ms (p.nx+1+5+3+9+1+5) 0 (p.i+1) cK'])::(0,.box 33 [vI 0,vB false,vI 0,vS ByteArray.empty,vNil,vNil])::[]) ?_) rfl rfl rfl rfl ?_
        ·simp(disch:=omega) only[upd,lkp,if_true,tok_T,tok_F,toks_T,toks_F]
        ·rw[flatV_len,hp.li]
        ·intro id e
         have:=hp.idI id e
         show lkp ((p.nx+1+5+3+9+1+5,_)::(12,_)::(0,_)::heapM p.bI 33 (flatV p.is++p.rI)) id=_
         rw[lkp_cons,if_neg (by omega),lkp_cons,if_neg (by omega),lkp_cons,if_neg (by omega),e,heapM_own]
        ·intro j o h
         show lkp ((p.nx+1+5+3+9+1+5,_)::(12,_)::(0,_)::heapM p.bI 33 (flatV p.is++p.rI)) j=some o/\_
         rw[lkp_cons,lkp_cons,lkp_cons]at h ⊢
         split at h
         ·rename_i e
          rw[if_pos e]
          exact⟨h,fun e'=>by have:=hp.idI _ e'; omega⟩
         ·rename_i e
          rw[if_neg e]
          split at h
          ·rename_i e0
           rw[if_pos e0]
           exact⟨h,fun e'=>by have:=hp.idI _ e'; omega⟩
          ·rename_i e0
           rw[if_neg e0]
           split at h
           ·rename_i e1
            rw[if_pos e1]
            exact⟨h,fun e'=>by have:=hp.idI _ e'; omega⟩
           ·cases h
        ·rintro r st1 ⟨cI',rI',w1,w2,w3,w4,rfl,rfl⟩
         simp -implicitDefEqProofs (disch:=omega) only[go_sem,simprocAttr,encV_nil,encT_nil,vZero]
         refine⟨⟨⟨p.i+1,insAt p.ks (posT p.ks k) k,insAt p.is (posT p.ks k) (items.getD p.i default),some (p.nx+1+5+3+9+1+5),cK',rK',some (p.nx+1+5+3+9+1+5+1+8+8+0),cI',rI',p.nx+1+5+3+9+1+5+1+8+8+0+1+1+11+2,p.nt+1+5+3+9+1+5+8+8+0+1+11+2⟩,?_⟩,by simp only; omega,?_⟩
         rotate_left
         ·simp only[objS,objH,heapM_some,insArg_some,List.cons_append,List.nil_append]
          have eT:(flatT p.ks).take (posT p.ks k*1)++[vS k]++(flatT p.ks).drop (posT p.ks k*1)=flatT (insAt p.ks (posT p.ks k) k):=by
           rw[Nat.mul_one,flatT_take,flatT_drop]; simp[insAt,flatT]
          have eV:(flatV p.is).take (posT p.ks k*6)++cellsV (items.getD p.i default)++(flatV p.is).drop (posT p.ks k*6)=flatV (insAt p.is (posT p.ks k) (items.getD p.i default)):=by
           rw[flatV_take,flatV_drop]
           unfold insAt
           rw[flatV_app,flatV_app]
           rfl
          rw[eT,eV]
          refine⟨?_,by simp(disch:=omega) only[tok_T,tok_F,toks_T,toks_F,ob_T,ob_F,obs_T,obs_F,Bool.true_and,Bool.and_eq_true,go_sem,simprocAttr,decide_eq_true_eq,Int.natCast_add,Int.natCast_one,ltL_app,ltL_flatT,ltL_flatV,q4,w4]<;>try ((repeat' apply And.intro)<;>first|rfl|omega|(congr 3; omega)|(congr 2; omega)),?_,?_,?_,?_,?_⟩<;>simp only[go_sem,simprocAttr,decide_eq_true_eq,Int.natCast_add,Int.natCast_one,ltL_app,ltL_flatT,ltL_flatV,q4,w4]<;>try ((repeat' apply And.intro)<;>first|rfl|omega|(congr 3; omega)|(congr 2; omega))
         ·have hli2:(insAt p.is (posT p.ks k) (items.getD p.i default)).length=p.i+1:=by rw[insAt_len (by omega),hp.li]
          refine⟨by simp only; omega,by simp only; rw[insAt_len (by rw[hp.lk]; exact hple),hp.lk],hli2,?_,hres,fun h=>(by cases h),fun h=>(by cases h),q1,w1,q2,w2,q3,w3,fun id h=>?_,fun id h=>?_,fun j l h1 h2=>?_,by simp only; omega⟩
          ·exact ins_sort hp.sort hnf
          ·obtain rfl:=Option.some.inj h
           exact⟨by omega,by simp only; omega⟩
          ·obtain rfl:=Option.some.inj h
           exact⟨by omega,by simp only; omega⟩
          ·obtain rfl:=Option.some.inj h1
           obtain rfl:=Option.some.inj h2
           omega
    ·have hpi:=hp.hi
     have hie:p.i=keys.length:=by omega
     have hres:=hp.res
     rw[List.drop_eq_nil_of_le (by omega),putAll.eq_2 _ _ _ _ (fun _ _ _ _ h=>by cases h),objR]at hres
     rw[<-hres]
     simp -implicitDefEqProofs (disch:=omega) only[go_sem,simprocAttr,encV_nil,encT_nil,outH,fzHAs,fzHA,fzHL,fzH_val,hp.fzK,hp.fzI,cellsV]
 ·rw[if_pos (by simpa using h1)]
  have hd:decide ((keys.length:Int)=(items.length:Int))=false:=decide_eq_false (by omega)
  simp -implicitDefEqProofs (disch:=omega) only[go_sem,simprocAttr,hd]
  simp -implicitDefEqProofs (disch:=omega) only[go_sem,simprocAttr,encV_nil,encT_nil,vZero,outH,fzHAs,fzHA,fzHL,fzH,cellsV]
end Go.Proofs.YtcgmpcbkndpmbaaGreatDoor

end
section
open Go Go.Proofs Go.Pw Go.RowKit
namespace Go.Proofs.YtcgmpcbkndpmbaaGreatDoor
set_option maxRecDepth 4000
set_option linter.unusedVariables false
set_option linter.unusedSimpArgs false
attribute [local go_sem] Nat.le_refl Tryz.results22 Tryz.results51
mutual
def nV:V->Nat
 | .mk _ _ _ _ is _=>1+nVs is
def nVs:List V->Nat
 | []=>0
 |v::r=>nV v+nVs r
end
theorem nV_eq (v:V):nV v=1+nVs v.items:=by cases v; simp[nV,V.items]
theorem nVs_nil:nVs []=0:=by simp[nVs]
theorem nVs_cons (v:V)(l:List V):nVs (v::l)=nV v+nVs l:=by simp[nVs]
theorem nVs_app:∀(l m:List V),nVs (l++m)=nVs l+nVs m
 | [],m=>by rw[nVs_nil,List.nil_append,Nat.zero_add]
 |v::r,m=>by rw[List.cons_append,nVs_cons,nVs_cons,nVs_app r m]; omega
theorem nV_le:∀v,nV v<=szV v:=by
 refine V.ind fun v ih=>?_
 rw[nV_eq,szV_eq]
 have:∀l:List V,(∀x∈l,nV x<=szV x)->nVs l<=szVs l:=by
  intro l
  induction l with
  |nil=>intro _; rw[nVs_nil]; omega
  |cons x r ihr=>
   intro h
   have h1:=h x (by simp)
   have h2:=ihr (fun y hy=>h y (by simp[hy]))
   rw[nVs_cons,szVs_cons]; omega
 have:=this v.items ih
 omega
theorem nVs_le (l:List V):nVs l<=szVs l:=by
 induction l with
 |nil=>rw[nVs_nil]; omega
 |cons x r ih=>have:=nV_le x; rw[nVs_cons,szVs_cons]; omega
theorem szVs_take:∀(l:List V)(i:Nat),szVs (l.take i)<=szVs l
 | [],i=>by simp
 |x::r,0=>by simp[szVs_nil]
 |x::r,i+1=>by have:=szVs_take r i; rw[List.take_succ_cons,szVs_cons,szVs_cons]; omega
theorem getD_mem {α:Type}{l:List α}{i:Nat}{d:α}(h:i<l.length):l.getD i d∈l:=by
 rw[List.getD_eq_getElem?_getD,List.getElem?_eq_getElem h]; exact List.getElem_mem h
theorem V.small {v:V}{B:Nat}(h:szV v<=B):v.items.length<=B/\v.keys.length<=B/\(∀x∈v.items,szV x<=B)/\szVs v.items<=B:=by
 have h1:=szVs_len v.items
 have h2:=szV_eq v
 have h3:=szT_len v.keys
 exact⟨by omega,by omega,fun x hx=>by have:=szVs_mem hx; omega,by omega⟩
theorem V.few {v:V}{B:Nat}(h:szV v<=B):v.s.size<=B/\∀s∈v.keys,s.size<=B:=by
 have h2:=szV_eq v
 exact⟨by omega,fun s hs=>by have:=szT_few s hs; omega⟩
theorem num_ok (n:Int):Ok Tryz.prog 51 [vI n] (.agg (cellsV (.mk 2 false n ByteArray.empty [] []))):=by
 refine Ok.of_pwp (by kernel_rfl) Tryz.func51 rfl (by kernel_rfl) (by kernel_rfl) ?_
 simp -implicitDefEqProofs (disch:=omega) only[go_sem,simprocAttr,cellsV,encV_nil,encT_nil]
set_option maxHeartbeats 4000000 in
theorem rsize_ok:∀v,szV v<=1000000->Ok Tryz.prog 22 [.agg (cellsV v)] (vI (nV v)):=by
 refine V.ind fun v ih hv=>?_
 obtain⟨hl,_,hx,hs⟩:=V.small hv
 have hit:∀i,i<v.items.length->Ok Tryz.prog 22 [.agg (cellsV (v.items.getD i default))] (vI (nV (v.items.getD i default))):=fun i hi=>ih _ (getD_mem hi) (hx _ (getD_mem hi))
 refine Ok.of_pwp (by kernel_rfl) Tryz.func22 rfl (by kernel_rfl) (by kernel_rfl) ?_
 generalize hr:vI (nV v)=rr
 simp -implicitDefEqProofs (disch:=omega) only[go_sem,simprocAttr,cellsV]
 refine p_loop (ι:={ i:Nat // i<=v.items.length }) (fun p=>⟨[(8,vI p.1),(7,vI v.items.length),(3,vI (1+nVs (v.items.take p.1):Nat)),(1,.ptr 0 0)],[(0,.box 28 (cellsV v))],[],1,0⟩) (fun p=>v.items.length-p.1) ⟨0,Nat.zero_le _⟩ ?_ ?_
 ·constructor<;>simp only[go_sem,simprocAttr,decide_eq_true_eq,Int.natCast_zero,List.take_zero,nVs_nil]<;>try ((repeat' apply And.intro)<;>first|rfl|omega|(congr 3; omega)|(congr 2; omega))
 ·rintro⟨i,h1⟩
  simp only
  simp -implicitDefEqProofs (disch:=omega) only[go_sem,simprocAttr,cellsV]
  with_reducible refine ifK_split (fun hlt=>?_) (fun hge=>?_)
  ·have hi:i<v.items.length:=by omega
   have e1:=take_snocG (a:=v.items) (d:=default) hi
   have e2:=nVs_app (v.items.take i) [v.items.getD i default]
   rw[<-e1,nVs_cons,nVs_nil]at e2
   have e3:=nVs_le (v.items.take (i+1))
   have e4:=szVs_take v.items (i+1)
   have e5:IntKind.wrap .i64 (((1+nVs (v.items.take i):Nat):Int)+(nV (v.items.getD i default):Int))=((1+nVs (v.items.take (i+1)):Nat):Int):=by rw[IntKind.wrap_i64]; omega
   simp -implicitDefEqProofs (disch:=omega) only[go_sem,simprocAttr,cellsV]
   with_reducible refine CallOk.of (hit i hi) rfl ?_
   simp -implicitDefEqProofs (disch:=omega) only[go_sem,simprocAttr,cellsV,e5]
   refine⟨⟨i+1,hi⟩,by simp only; omega,?_⟩
   constructor<;>simp only[go_sem,simprocAttr,decide_eq_true_eq,Int.natCast_add,Int.natCast_one]<;>try ((repeat' apply And.intro)<;>first|rfl|omega|(congr 3; omega)|(congr 2; omega))
  ·have e1:v.items.take i=v.items:=List.take_of_length_le (by omega)
   rw[<-hr,nV_eq,e1]
   simp -implicitDefEqProofs (disch:=omega) only[go_sem,simprocAttr,cellsV]
mutual
def dV:V->Nat
 | .mk k _ _ _ is _=>if k<4 then 0 else dVs is+1
def dVs:List V->Nat
 | []=>0
 |v::r=>max (dV v) (dVs r)
end
theorem dV_eq (v:V):dV v=if v.kind<4 then 0 else dVs v.items+1:=by cases v; rw[dV]; rfl
theorem dVs_nil:dVs []=0:=by simp[dVs]
theorem dVs_cons (v:V)(l:List V):dVs (v::l)=max (dV v) (dVs l):=by simp[dVs]
theorem dVs_app:∀(l m:List V),dVs (l++m)=max (dVs l) (dVs m)
 | [],m=>by rw[dVs_nil,List.nil_append,Nat.zero_max]
 |v::r,m=>by rw[List.cons_append,dVs_cons,dVs_cons,dVs_app r m,Nat.max_assoc]
end Go.Proofs.YtcgmpcbkndpmbaaGreatDoor

end
section
open Go Go.Proofs Go.Pw Go.RowKit
namespace Go.Proofs.YtcgmpcbkndpmbaaGreatDoor
set_option maxRecDepth 4000
set_option linter.unusedVariables false
set_option linter.unusedSimpArgs false
theorem upd_same {α:Type}:∀{l:List (Nat×α)}{k:Nat}{t:α},lkp l k=some t->upd l k t=l
 | [],k,t,h=>by cases h
 |(j,u)::r,k,t,h=>by
  rw[lkp_cons]at h
  rw[upd]
  split at h
  ·rename_i e
   rw[if_pos e,Option.some.inj h,e]
  ·rename_i e
   rw[if_neg e,upd_same h]
theorem app_any {e:TypeId}{sz b tk k:Nat}{st:PS}{xs ys:List (List PV)}{F:PS->Prop}{d:Option Tmp}{t:Tok}(hk:lkp st.toks k=some t)(ht:t=⟨e,sz,xs.length⟩)(h1:(xs.length+ys.length)*b<=140737488355328)(h2:xs.length+ys.length<=9223372036854775807)
  (h:evS (({ st with toks:=upd st.toks k ⟨e,sz,xs.length+ys.length⟩ }:PS).put d (.row k (xs++ys))) F):appT e sz b st tk (fun δ=>evS (δ.apply d st) F) (.row k xs) ys:=by
 subst ht
 cases ys with
 |nil=>
  refine⟨rfl,?_⟩
  simp only[List.length_nil,Nat.add_zero,List.append_nil,upd_same hk]at h
  exact h
 |cons y r=>
  show bindO (lkp st.toks k) _
  rw[hk,b_some]
  exact⟨rfl,rfl,rfl,h1,h2,h⟩
def appZ (e:TypeId)(sz by_:Nat)(st:PS)(tk0:Nat)(K:Delta->Prop)(d:PV)(ys:List (List PV)):Prop:=appT e sz by_ st tk0 K d ys
theorem app_stopT {e:TypeId}{sz b tk k:Nat}{st:PS}{xs:List (List PV)}{K:Delta->Prop}{l:List ByteArray}:appT e sz b st tk K (.row k xs) (encT l)=appZ e sz b st tk K (.row k xs) (encT l):=propext Iff.rfl
theorem app_stopV {e:TypeId}{sz b tk k:Nat}{st:PS}{xs:List (List PV)}{K:Delta->Prop}{l:List V}:appT e sz b st tk K (.row k xs) (encV l)=appZ e sz b st tk K (.row k xs) (encV l):=propext Iff.rfl
attribute [go_sem ↓ 2000] app_stopT app_stopV
@[congr] theorem appZ_congr {e:TypeId} {sz b tk:Nat} {st st':PS} {K:Delta->Prop} {d:PV} {ys:List (List PV)} (h:hold st=st'):appZ e sz b st tk K d ys=appZ e sz b st' tk K d ys:=by rw[<-h]; rfl
theorem appZ_any {e:TypeId}{sz b tk k:Nat}{st:PS}{xs ys:List (List PV)}{F:PS->Prop}{d:Option Tmp}{t:Tok}(hk:lkp st.toks k=some t)(ht:t=⟨e,sz,xs.length⟩)(h1:(xs.length+ys.length)*b<=140737488355328)(h2:xs.length+ys.length<=9223372036854775807)
 (h:evS (({ st with toks:=upd st.toks k ⟨e,sz,xs.length+ys.length⟩ }:PS).put d (.row k (xs++ys))) F):appZ e sz b st tk (fun δ=>evS (δ.apply d st) F) (.row k xs) ys:=app_any hk ht h1 h2 h
def rowV (k:Nat):List V->PV
 | []=>vNil
 |x::r=> .row k (encV (x::r))
def tokV (k:Nat)(e:TypeId):List V->List (Nat×Tok)
 | []=>[]
 |x::r=>[(k,⟨e,6,(x::r).length⟩)]
theorem fz_rowV (k:Nat)(l:List V):fz (rowV k l)=some (.sl (encV l)):=by
 cases l with
 |nil=>rw[encV_nil]; rfl
 |cons x r=>rfl
attribute [go_sem ↓ 2000] fz_rowV
theorem encV_snoc' (l:List V)(v:V):encV (l++[v])=encV l++[cellsV v]:=(encV_snoc l v).symm
end Go.Proofs.YtcgmpcbkndpmbaaGreatDoor

end
section
open Go Go.Proofs Go.Pw Go.RowKit
namespace Go.Proofs.YtcgmpcbkndpmbaaGreatDoor
set_option maxRecDepth 4000
set_option linter.unusedVariables false
set_option linter.unusedSimpArgs false
attribute [local go_sem] Nat.le_refl Tryz.results21
def bareB (k:Int)(b:Bool)(n:Int)(s:ByteArray)(il kl:Nat):Bool:=
 (decide (k=1) || !b)&&(decide (k=2)||decide (n=0))&&(decide (k=3)||decide (s=ByteArray.empty))&&(decide (4<=k)||decide (il=0))&&(decide (k=5)||decide (kl=0))
def sortB:List ByteArray->Bool
 |x::y::r=>ltT x y&&sortB (y::r)
 |_=>true
def keyedB (k:Int)(il:Nat)(ks:List ByteArray):Bool:=ks.all isT&&sortB ks&&(decide (k≠5)||decide (ks.length=il))
mutual
def goodB:V->Bool
 | .mk k b n s is ks=>decide (0<=k/\k<=5)&&bareB k b n s is.length ks.length&&keyedB k is.length ks&&isT s&&goodBs is
def goodBs:List V->Bool
 | []=>true
 |v::r=>goodB v&&goodBs r
end
theorem goodBs_eq:∀l,goodBs l=l.all goodB
 | []=>by simp[goodBs]
 |v::r=>by simp[goodBs,goodBs_eq r]
theorem goodB_eq (v:V):goodB v=(decide (0<=v.kind/\v.kind<=5)&&bareB v.kind v.b v.n v.s v.items.length v.keys.length&&keyedB v.kind v.items.length v.keys&&isT v.s&&v.items.all goodB):=by
 cases v; rw[goodB,goodBs_eq]; rfl
theorem sortB_iff:∀l,sortB l=true↔SortT l
 | []=>by simp[sortB,SortT]
 | [x]=>by simp[sortB,SortT]
 |x::y::r=>by
  have ih:=sortB_iff (y::r)
  rw[sortB,Bool.and_eq_true,ih]
  constructor
  ·rintro⟨h1,h2⟩
   refine List.pairwise_cons.2 ⟨fun z hz=>?_,h2⟩
   rcases List.mem_cons.1 hz with rfl|hz
   ·exact h1
   ·exact ltT_trans h1 ((List.pairwise_cons.1 h2).1 z hz)
  ·intro h
   exact⟨(List.pairwise_cons.1 h).1 y (by simp),(List.pairwise_cons.1 h).2⟩
theorem isT_empty:isT ByteArray.empty=true:=by
 unfold isT
 rw[scan_end (by decide)]
 rfl
mutual
def str60:V->Bool
 | .mk _ _ _ s is ks=>decide (s.size<=60)&&ks.all (fun k=>decide (k.size<=60))&&str60s is
def str60s:List V->Bool
 | []=>true
 |v::r=>str60 v&&str60s r
end
theorem str60s_eq:∀l,str60s l=l.all str60
 | []=>by simp[str60s]
 |v::r=>by simp[str60s,str60s_eq r]
theorem str60_eq (v:V):str60 v=(decide (v.s.size<=60)&&v.keys.all (fun k=>decide (k.size<=60))&&v.items.all str60):=by
 cases v; rw[str60,str60s_eq]; rfl
mutual
def fitV:V->Bool
 | .mk _ _ n _ is _=>decide (-9223372036854775808<=n/\n<=9223372036854775807)&&fitVs is
def fitVs:List V->Bool
 | []=>true
 |v::r=>fitV v&&fitVs r
end
theorem fitVs_eq:∀l,fitVs l=l.all fitV
 | []=>by simp[fitVs]
 |v::r=>by simp[fitVs,fitVs_eq r]
theorem fitV_eq (v:V):fitV v=(decide (-9223372036854775808<=v.n/\v.n<=9223372036854775807)&&v.items.all fitV):=by
 cases v; rw[fitV,fitVs_eq]; rfl
structure TreeOk (v:V):Prop where
 good:goodB v=true
 str:str60 v=true
 size:nV v<=40
 fit:fitV v=true
theorem nVs_pos:∀l:List V,l.length<=nVs l
 | []=>Nat.zero_le _
 |v::r=>by have:=nVs_pos r; rw[nVs_cons,List.length_cons,nV_eq]; omega
theorem szT_60:∀l:List ByteArray,(l.all fun k=>decide (k.size<=60))=true->szT l<=61*l.length
 | [],_=>Nat.zero_le _
 |k::r,h=>by
  simp only[List.all_cons,Bool.and_eq_true,decide_eq_true_eq]at h
  have:=szT_60 r h.2
  rw[szT,List.length_cons]; omega
theorem sz_of_good:∀v,goodB v=true->str60 v=true->szV v+61<=122*nV v:=by
 refine V.ind fun v ih hg hs=>?_
 rw[goodB_eq]at hg
 rw[str60_eq]at hs
 simp only[Bool.and_eq_true,decide_eq_true_eq]at hg hs
 obtain⟨⟨⟨⟨_,hbare⟩,hkey⟩,_⟩,hgi⟩:=hg
 obtain⟨⟨hs1,hs2⟩,hsi⟩:=hs
 have hk:=szT_60 _ hs2
 have hlen:v.keys.length<=v.items.length:=by
  unfold bareB at hbare
  unfold keyedB at hkey
  simp only[Bool.and_eq_true,Bool.or_eq_true,decide_eq_true_eq]at hbare hkey
  rcases hbare.2 with h|h
  ·rcases hkey.2 with h'|h'
   ·exact absurd h h'
   ·omega
  ·omega
 have hsum:∀l:List V,(∀x∈l,szV x+61<=122*nV x)->szVs l+61*l.length<=122*nVs l:=by
  intro l
  induction l with
  |nil=>intro _; rw[szVs_nil,nVs_nil]; simp
  |cons x r ihr=>
   intro h
   have h1:=h x (by simp)
   have h2:=ihr (fun y hy=>h y (by simp[hy]))
   rw[szVs_cons,nVs_cons,List.length_cons]; omega
 have:=hsum v.items (fun x hx=>ih x hx (List.all_eq_true.1 hgi x hx) (List.all_eq_true.1 hsi x hx))
 rw[szV_eq,nV_eq]
 omega
theorem TreeOk.sz {v:V}(h:TreeOk v):szV v<=5000:=by
 have:=sz_of_good v h.good h.str
 have:=h.size
 omega
theorem TreeOk.sort {v:V}(h:TreeOk v):SortT v.keys:=by
 have hg:=h.good
 rw[goodB_eq]at hg
 simp only[Bool.and_eq_true]at hg
 have hk:=hg.1.1.2
 unfold keyedB at hk
 simp only[Bool.and_eq_true]at hk
 exact(sortB_iff _).1 hk.1.2
structure Nd where
 kind:Int
 n:Int
 s:ByteArray
 items:List Int
 keys:List ByteArray
instance:Inhabited Nd:=⟨⟨0,0,ByteArray.empty,[],[]⟩⟩
abbrev cellsN (x:Nd):List PV:=[.val (.int .u8 x.kind),vI x.n,vS x.s,.sl (encC x.items),.sl (encT x.keys)]
def encN (l:List Nd):List (List PV):=l.map cellsN
theorem encN_len (l:List Nd):(encN l).length=l.length:=by simp[encN]
theorem encN_get (l:List Nd)(i:Nat):(encN l).getD i []=if i<l.length then cellsN (l.getD i default) else[]:=by
 unfold encN
 by_cases h:i<l.length
 ·simp[h,List.getD_eq_getElem?_getD]
 ·rw[if_neg h,List.getD_eq_getElem?_getD,List.getElem?_eq_none (by simpa using h)]; rfl
theorem encN_take (l:List Nd)(n:Nat):(encN l).take n=encN (l.take n):=by simp[encN,List.map_take]
theorem ix_N {a:List Nd}{i:Int}{K:PV->Prop}(h0:0<=i)(h1:i<(a.length:Int)):ixP 5 i K (.sl (encN a))=K (.fp (cellsN (a.getD i.toNat default))):=by
 have h:i.toNat<a.length:=by omega
 simp only[ixP,encN_get,if_pos h,encN_len,cellsN,List.length_cons,List.length_nil,h0,h1,true_and]
theorem encC_get (l:List Int)(i:Nat):(encC l).getD i []=if i<l.length then[vC (l.getD i 0)] else[]:=by
 unfold encC
 by_cases h:i<l.length
 ·simp[h,List.getD_eq_getElem?_getD]
 ·rw[if_neg h,List.getD_eq_getElem?_getD,List.getElem?_eq_none (by simpa using h)]; rfl
theorem ix_C {a:List Int}{i:Int}{K:PV->Prop}(h0:0<=i)(h1:i<(a.length:Int)):ixP 1 i K (.sl (encC a))=K (.fp [vC (a.getD i.toNat 0)]):=by
 have h:i.toNat<a.length:=by omega
 simp only[ixP,encC_get,if_pos h,encC_len,List.length_singleton,h0,h1,true_and]
attribute [go_sem ↓ 2000] ix_N ix_C
attribute [go_sem] encN_len
structure NdOk (x:Nd):Prop where
 kind:0<=x.kind/\x.kind<=255
 num : -9223372036854775808<=x.n/\x.n<=9223372036854775807
 items:∀d∈x.items,0<=d/\d<=255
 il:x.items.length<=9223372036854775807
 kl:x.keys.length<=9223372036854775807
def textL (s:ByteArray):ByteArray:=if s.size<=60/\isT s=true then s else⟨#[97]⟩
theorem ltext_ok (s:ByteArray):Ok Tryz.prog 21 [vS s] (vS (textL s)):=by
 refine Ok.of_pwp (by kernel_rfl) Tryz.func21 rfl (by kernel_rfl) (by kernel_rfl) ?_
 unfold textL
 by_cases h:s.size<=60
 ·have v:=rvalid_ok s (by omega)
  have e:decide ((scan s 0).2=s.size)=isT s:=rfl
  rw[e]at v
  cases ht:isT s with
  |true=>
   rw[if_pos ⟨h,rfl⟩]
   rw[ht]at v
   simp -implicitDefEqProofs (disch:=omega) only[go_sem,simprocAttr,cellsV]
   with_reducible refine CallOk.of (v) rfl ?_
   simp -implicitDefEqProofs (disch:=omega) only[go_sem,simprocAttr,cellsV]
  |false=>
   rw[if_neg (by simp)]
   rw[ht]at v
   simp -implicitDefEqProofs (disch:=omega) only[go_sem,simprocAttr,cellsV]
   with_reducible refine CallOk.of (v) rfl ?_
   simp -implicitDefEqProofs (disch:=omega) only[go_sem,simprocAttr,cellsV]
 ·rw[if_neg (fun h'=>h h'.1)]
  simp -implicitDefEqProofs (disch:=omega) only[go_sem,simprocAttr,cellsV]
theorem textL_ok (s:ByteArray):(textL s).size<=60/\isT (textL s)=true:=by
 unfold textL
 split
 ·assumption
 ·exact⟨by decide,by decide +kernel⟩
end Go.Proofs.YtcgmpcbkndpmbaaGreatDoor

end
section
open Go Go.Proofs Go.Pw Go.RowKit
namespace Go.Proofs.YtcgmpcbkndpmbaaGreatDoor
set_option maxRecDepth 4000
set_option linter.unusedVariables false
set_option linter.unusedSimpArgs false
abbrev nE (s:ByteArray)(i:Nat):Int:=(nextF s i).1
abbrev nP (s:ByteArray)(i:Nat):Nat:=(nextF s i).2.1
abbrev nT (s:ByteArray)(i:Nat):Tk:=(nextF s i).2.2.1
abbrev nQ (s:ByteArray)(i:Nat):Nat:=(nextF s i).2.2.2
structure An where
 code:Int
 place:Nat
 v:V
 at_:Nat
def An.bad (e:Int)(p:Nat):An:=⟨e,p,vZero,0⟩
def An.good (v:V)(q:Nat):An:=⟨0,0,v,q⟩
def Tk.sign (t:Tk)(c:UInt8):Bool:=decide (t.kind=1)&&decide (t.text=⟨#[c]⟩)
def rItems (s:ByteArray)(f:Nat->An):Nat->Nat->List V->An
 |0,i,l=> .bad 1 i
 |n+1,i,l=>
  if(f i).code≠0 then .bad (f i).code (f i).place else
  if nE s (f i).at_≠0 then .bad (nE s (f i).at_) (nP s (f i).at_) else
  if(nT s (f i).at_).sign 93=true then .good (.mk 4 false 0 ByteArray.empty (l++[(f i).v]) []) (nQ s (f i).at_) else
  if(nT s (f i).at_).sign 44=true then rItems s f n (nQ s (f i).at_) (l++[(f i).v]) else .bad 1 (nT s (f i).at_).at_
def objV (ks:List ByteArray)(is:List V):V:=match putAll [] [] ks is with
 |some (k,l)=> .mk 5 false 0 ByteArray.empty l k
 |none=>vZero
def rMems (s:ByteArray)(f:Nat->An):Nat->Nat->List ByteArray->List V->An
 |0,i,ks,l=> .bad 1 i
 |n+1,i,ks,l=>
  if nE s i≠0 then .bad (nE s i) (nP s i) else
  if(nT s i).kind≠2 then .bad 1 (nT s i).at_ else
  if(ks.any fun k=>decide (k=(nT s i).text))=true then .bad 5 (nT s i).at_ else
  if nE s (nQ s i)≠0 then .bad (nE s (nQ s i)) (nP s (nQ s i)) else
  if(nT s (nQ s i)).sign 58=false then .bad 1 (nT s (nQ s i)).at_ else
  if(f (nQ s (nQ s i))).code≠0 then .bad (f (nQ s (nQ s i))).code (f (nQ s (nQ s i))).place else
  if nE s (f (nQ s (nQ s i))).at_≠0 then .bad (nE s (f (nQ s (nQ s i))).at_) (nP s (f (nQ s (nQ s i))).at_) else
  if(nT s (f (nQ s (nQ s i))).at_).sign 125=true then .good (objV (ks++[(nT s i).text]) (l++[(f (nQ s (nQ s i))).v])) (nQ s (f (nQ s (nQ s i))).at_) else
  if(nT s (f (nQ s (nQ s i))).at_).sign 44=true then rMems s f n (nQ s (f (nQ s (nQ s i))).at_) (ks++[(nT s i).text]) (l++[(f (nQ s (nQ s i))).v]) else .bad 1 (nT s (f (nQ s (nQ s i))).at_).at_
def rArr (s:ByteArray)(f:Nat->An)(i:Nat):An:=
 if nE s i≠0 then .bad (nE s i) (nP s i) else
 if(nT s i).sign 93=true then .good (.mk 4 false 0 ByteArray.empty [] []) (nQ s i) else rItems s f (s.size+1) i []
def rObj (s:ByteArray)(f:Nat->An)(i:Nat):An:=
 if nE s i≠0 then .bad (nE s i) (nP s i) else
 if(nT s i).sign 125=true then .good (.mk 5 false 0 ByteArray.empty [] []) (nQ s i) else rMems s f (s.size+1) i [] []
def rLeaf (t:Tk):Option V:=
 if t.kind=2 then some (.mk 3 false 0 t.text [] []) else
 if t.kind=3 then some (.mk 2 false t.int ByteArray.empty [] []) else
 if t.kind=4∨t.kind=5 then some (.mk 1 (decide (t.kind=4)) 0 ByteArray.empty [] []) else
 if t.kind=6 then some vZero else none
def rVh (s:ByteArray)(i:Nat)(g:An):An:=
 if nE s i≠0 then .bad (nE s i) (nP s i) else
 match rLeaf (nT s i)with
 |some v=> .good v (nQ s i)
 |none=>if(nT s i).sign 91=false/\(nT s i).sign 123=false then .bad 1 (nT s i).at_ else g
def rV (s:ByteArray):Nat->Nat->An
 |0,i=>rVh s i (.bad 6 (nT s i).at_)
 |k+1,i=>rVh s i (if(nT s i).sign 91=true then rArr s (rV s k) (nQ s i) else rObj s (rV s k) (nQ s i))
theorem litF_ge (s w:ByteArray):∀f k i,i<=(litF s w f k i).2/\(i<=s.size->(litF s w f k i).2<=s.size)/\((litF s w f k i).1=true->i+f<=(litF s w f k i).2)
 |0,k,i=>by simp[litF]
 |f+1,k,i=>by
  rw[litF]
  split
  ·rename_i h
   have h1:=hasF_lt h
   obtain⟨h2,h3,h4⟩:=litF_ge s w f (k+1) (i+1)
   exact⟨by omega,fun _=>h3 (by omega),fun h5=>by have:=h4 h5; omega⟩
  ·simp
theorem wordF_pos (s:ByteArray)(i:Nat)(hi:i<=s.size):i<=(wordF s i).2.2/\(wordF s i).2.2<=s.size/\((wordF s i).1=0->i<(wordF s i).2.2/\4<=(wordF s i).2.1/\(wordF s i).2.1<=6):=by
 unfold wordF
 have h1:=litF_ge s wd1 4 0 i
 have h2:=litF_ge s wd2 5 0 i
 have h3:=litF_ge s wd3 4 0 i
 repeat' split
 all_goals simp only
 all_goals (refine⟨by omega,by omega,fun h=>?_⟩)
 all_goals first
  |(exact absurd h (by decide))
  |(rename_i q _; have q':=h1.2.2 q; refine⟨by omega,by omega,by omega⟩)
  |(rename_i q; have q':=h1.2.2 q; refine⟨by omega,by omega,by omega⟩)
  |(rename_i q; have q':=h2.2.2 q; refine⟨by omega,by omega,by omega⟩)
  |(rename_i q; have q':=h3.2.2 q; refine⟨by omega,by omega,by omega⟩)
theorem numF_pos (s:ByteArray)(i:Nat)(hi:i<=s.size):(numF s i).1=0->i<(numF s i).2.2/\(numF s i).2.2<=s.size:=by
 have ha:=oneP_le (s:=s) (some:=mnS) hi
 unfold numF
 generalize oneP s mnS i=a at *
 intro h
 have hI:(numI s a).1=true->a<(numI s a).2/\(numI s a).2<=s.size:=by
  unfold numI
  split
  ·rename_i h; have:=hasF_lt h; intro _; simp only; omega
  ·have:=passF_le s dgS a ha.2
   intro h
   simp only[Bool.not_eq_true',decide_eq_false_iff_not]at h
   simp only
   omega
 unfold numY at h ⊢
 by_cases h1:(numI s a).1=true
 ·rw[if_pos h1]at h ⊢
  obtain⟨b1,b2⟩:=hI h1
  generalize (numI s a).2=b at *
  have hD:b<=(numD s b).2/\(numD s b).2<=s.size:=by
   unfold numD
   split
   ·rename_i h; have:=hasF_lt h; have:=passF_le s dgS (b+1) (by omega); simp only; omega
   ·simp only; omega
  generalize numD s b=c at *
  unfold numX at h ⊢
  by_cases h2:c.1=true
  ·rw[if_pos h2]at h ⊢
   have hE:c.2<=(numE s c.2).2/\(numE s c.2).2<=s.size:=by
    unfold numE
    split
    ·rename_i h
     have:=hasF_lt h
     have:=oneP_le (s:=s) (some:=pmS) (i:=c.2+1) (by omega)
     have:=passF_le s dgS (oneP s pmS (c.2+1)) (by omega)
     simp only; omega
    ·simp only; omega
   by_cases h3:(numE s c.2).1=true
   ·rw[if_pos h3]at h ⊢
    unfold numT at h ⊢
    split
    ·simp only; omega
    ·rename_i hn; rw[if_neg hn]at h; exact absurd h (show ¬(4:Int)=0 by decide)
   ·rw[if_neg h3]at h; exact absurd h (show ¬(1:Int)=0 by decide)
  ·rw[if_neg h2]at h; exact absurd h (show ¬(1:Int)=0 by decide)
 ·rw[if_neg h1]at h; exact absurd h (show ¬(1:Int)=0 by decide)
theorem numF_le (s:ByteArray)(i:Nat)(hi:i<=s.size):(numF s i).2.2<=s.size:=by
 have ha:=oneP_le (s:=s) (some:=mnS) hi
 unfold numF
 generalize oneP s mnS i=a at *
 have hI:a<=(numI s a).2/\(numI s a).2<=s.size:=by
  unfold numI
  split
  ·rename_i h; have:=hasF_lt h; simp only; omega
  ·have:=passF_le s dgS a ha.2
   simp only
   omega
 unfold numY
 split
 ·obtain⟨b1,b2⟩:=hI
  generalize (numI s a).2=b at *
  have hD:b<=(numD s b).2/\(numD s b).2<=s.size:=by
   unfold numD
   split
   ·rename_i h; have:=hasF_lt h; have:=passF_le s dgS (b+1) (by omega); simp only; omega
   ·simp only; omega
  generalize numD s b=c at *
  unfold numX
  split
  ·have hE:c.2<=(numE s c.2).2/\(numE s c.2).2<=s.size:=by
    unfold numE
    split
    ·rename_i h
     have:=hasF_lt h
     have:=oneP_le (s:=s) (some:=pmS) (i:=c.2+1) (by omega)
     have:=passF_le s dgS (oneP s pmS (c.2+1)) (by omega)
     simp only; omega
    ·simp only; omega
   split
   ·unfold numT
    split<;>(simp only; omega)
   ·simp only; omega
  ·simp only; omega
 ·simp only; omega
theorem txtF_pos (s:ByteArray):∀f i out,i<=s.size->i<=(txtF s f i out).2.2/\(txtF s f i out).2.2<=s.size/\((txtF s f i out).1=0->i<(txtF s f i out).2.2)/\(txtF s f i out).2.1.size+4*i<=out.size+4*(txtF s f i out).2.2
 |0,i,out,hi=>by simp[txtF]; exact hi
 |f+1,i,out,hi=>by
  rw[txtF]
  split
  ·rename_i h; have:=hasF_lt h; simp only; omega
  ·split
   ·simp only; omega
   ·rename_i hq he
    have hlt:i<s.size:=by omega
    split
    ·have he:=escP_range s i hlt
     split
     ·rename_i h0
      have hr:=he.2.2 h0
      have ih:=txtF_pos s f (escP s i).2.2 (out++encF (escP s i).1) he.2.1
      have:=encF_size (escP s i).1
      rw[ByteArray.size_append]at ih
      omega
     ·simp only; rename_i h0; refine⟨he.1,he.2.1,fun h=>absurd h h0,by omega⟩
    ·split
     ·simp only; omega
     ·rename_i hd
      have hw:1<=(decF (s.extract i s.size)).2.toNat/\i+(decF (s.extract i s.size)).2.toNat<=s.size:=by
       rw[decF_tail hlt]at hd ⊢
       unfold goodN at hd ⊢
       split
       ·rename_i hb; rw[if_pos hb]at hd; exact absurd rfl hd
       ·have:=dec_pos s i hlt
        simp only[Int.toNat_natCast]
        exact this
      have ih:=txtF_pos s f (i+(decF (s.extract i s.size)).2.toNat) (out++encF (decF (s.extract i s.size)).1) hw.2
      have:=encF_size (decF (s.extract i s.size)).1
      rw[ByteArray.size_append]at ih
      omega
theorem txtT_pos (s:ByteArray)(i:Nat)(hi:i<s.size):(txtT s i).2.2<=s.size/\i<(txtT s i).2.2/\(txtT s i).2.1.size<=4*((txtT s i).2.2-i):=by
 have:=txtF_pos s (s.size-i) (i+1) ByteArray.empty (by omega)
 unfold txtT
 rw[ByteArray.size_empty]at this
 omega
structure TkOk (s:ByteArray) (i:Nat):Prop where
 le:nQ s i<=s.size
 ge:i<=nQ s i
 lt:nE s i=0->(nT s i).kind≠0->i<nQ s i
 stop:nE s i=0->(nT s i).stop=nQ s i
 at_:nE s i=0->i<=(nT s i).at_/\(nT s i).at_<=nQ s i
 size:(nT s i).text.size<=4*(nQ s i-i)
 kind:nE s i=0->0<=(nT s i).kind/\(nT s i).kind<=6
 place:nP s i<=s.size
theorem nextE_ok {s:ByteArray}{i b q:Nat}{e:Int}{t:Tk}(hb:i<=b)(hi:i<=s.size)(hq:q<=s.size)(hk:e=0->b<q/\0<=t.kind/\t.kind<=6/\t.text.size<=4*(q-b))(h:nextF s i=nextE i b e t q):TkOk s i:=by
 by_cases he:e=0
 ·have hx:nextF s i=(0,0,{ t with at_:=b,stop:=q },q):=by rw[h,nextE,if_pos he]
  obtain⟨h1,h2,h3,h4⟩:=hk he
  refine⟨?_,?_,?_,?_,?_,?_,?_,?_⟩<;>simp only[nE,nP,nT,nQ,hx]<;>(try intro _)<;>first|omega|exact fun _=>by omega|trivial|exact Nat.zero_le _
 ·have hx:nextF s i=(e,q,tk0,i):=by rw[h,nextE,if_neg he]
  refine⟨?_,?_,?_,?_,?_,?_,?_,?_⟩<;>simp only[nE,nP,nT,nQ,hx]<;>first|omega|exact fun h=>absurd h he|(show ByteArray.empty.size<=_; simp)
theorem tk_ok (s:ByteArray)(i:Nat)(hi:i<=s.size):TkOk s i:=by
 have hb:=passF_le s blS i hi
 by_cases h1:passF s blS i=s.size
 ·have hx:nextF s i=(0,0,⟨0,ByteArray.empty,0,passF s blS i,passF s blS i⟩,passF s blS i):=by unfold nextF; rw[if_pos h1]
  refine⟨?_,?_,?_,?_,?_,?_,?_,?_⟩<;>simp only[nE,nP,nT,nQ,hx]<;>first|omega|exact fun _=>by omega|exact fun _ h=>absurd rfl h|exact fun _=>rfl|(simp; done)
 ·cases h2:hasF s mkS (passF s blS i)with
  |true=>
   have hx:nextF s i=nextE i (passF s blS i) 0 ⟨1,s.extract (passF s blS i) (passF s blS i+1),0,0,0⟩ (passF s blS i+1):=by unfold nextF; rw[if_neg h1,if_pos h2]
   have:=hasF_lt h2
   refine nextE_ok hb.1 hi (by omega) (fun _=>⟨by omega,by simp only; omega,by simp only; omega,?_⟩) hx
   simp only[ByteArray.size_extract]; omega
  |false=>
   cases h3:hasF s qtS (passF s blS i)with
   |true=>
    have hx:nextF s i=nextE i (passF s blS i) (txtT s (passF s blS i)).1 ⟨2,(txtT s (passF s blS i)).2.1,0,0,0⟩ (txtT s (passF s blS i)).2.2:=by unfold nextF; rw[if_neg h1,if_neg (by rw[h2]; decide),if_pos h3]
    have hl:=hasF_lt h3
    have ht:=txtT_pos s _ hl
    exact nextE_ok hb.1 hi ht.1 (fun _=>⟨ht.2.1,by simp only; omega,by simp only; omega,ht.2.2⟩) hx
   |false=>
    cases h4:hasF s nuS (passF s blS i)with
    |true=>
     have hx:nextF s i=nextE i (passF s blS i) (numF s (passF s blS i)).1 ⟨3,ByteArray.empty,(numF s (passF s blS i)).2.1,0,0⟩ (numF s (passF s blS i)).2.2:=by unfold nextF; rw[if_neg h1,if_neg (by rw[h2]; decide),if_neg (by rw[h3]; decide),if_pos h4]
     have hn:=numF_pos s _ hb.2
     have hn2:=numF_le s _ hb.2
     exact nextE_ok hb.1 hi hn2 (fun h=>⟨(hn h).1,by simp only; omega,by simp only; omega,by simp⟩) hx
    |false=>
     have hx:nextF s i=nextE i (passF s blS i) (wordF s (passF s blS i)).1 ⟨(wordF s (passF s blS i)).2.1,ByteArray.empty,0,0,0⟩ (wordF s (passF s blS i)).2.2:=by unfold nextF; rw[if_neg h1,if_neg (by rw[h2]; decide),if_neg (by rw[h3]; decide),if_neg (by rw[h4]; decide)]
     have hw:=wordF_pos s _ hb.2
     exact nextE_ok hb.1 hi hw.2.1 (fun h=>⟨(hw.2.2 h).1,by simp only; have:=(hw.2.2 h).2; omega,by simp only; have:=(hw.2.2 h).2; omega,by simp⟩) hx
def AnOk (s:ByteArray)(i:Nat)(A:An):Prop:=A.code=0->i<A.at_/\A.at_<=s.size/\szV A.v<=5*(A.at_-i)
theorem AnOk.bad {s:ByteArray}{i:Nat}{e:Int}{p:Nat}(h:e≠0):AnOk s i (.bad e p):=fun h'=>absurd h' h
theorem sign_kind {t:Tk}{c:UInt8}(h:t.sign c=true):t.kind=1:=by
 unfold Tk.sign at h
 simp only[Bool.and_eq_true,decide_eq_true_eq]at h
 exact h.1
theorem sign_text {t:Tk}{c:UInt8}(h:t.sign c=true):t.text=⟨#[c]⟩:=by
 unfold Tk.sign at h
 simp only[Bool.and_eq_true,decide_eq_true_eq]at h
 exact h.2
theorem szVs_insA (l:List V)(i:Nat)(y:V):szVs (insAt l i y)=szVs l+szV y:=by
 unfold insAt
 rw[szVs_app,szVs_app,szVs_cons,szVs_nil]
 have:=szVs_app (l.take i) (l.drop i)
 rw[List.take_append_drop]at this
 omega
theorem szT_appA:∀(l m:List ByteArray),szT (l++m)=szT l+szT m
 | [],m=>by simp[szT]
 |k::r,m=>by rw[List.cons_append,szT,szT,szT_appA r m]; omega
theorem szT_insA (l:List ByteArray)(i:Nat)(y:ByteArray):szT (insAt l i y)=szT l+(1+y.size):=by
 unfold insAt
 rw[szT_appA,szT_appA,szT,szT]
 have:=szT_appA (l.take i) (l.drop i)
 rw[List.take_append_drop]at this
 omega
theorem putAll_sz:∀(r:List ByteArray)(vs:List V)(ks:List ByteArray)(is:List V) K I,putAll ks is r vs=some (K,I)->szT K<=szT ks+szT r/\szVs I<=szVs is+szVs vs
 | [],vs,ks,is,K,I,h=>by
  rw[putAll]at h
  ·simp only[Option.some.injEq,Prod.mk.injEq]at h
   obtain⟨rfl,rfl⟩:=h
   omega
  ·intro k r v vs h; cases h
 |k::r,[],ks,is,K,I,h=>by
  rw[putAll]at h
  ·simp only[Option.some.injEq,Prod.mk.injEq]at h
   obtain⟨rfl,rfl⟩:=h
   omega
  ·intro k r v vs _ h; cases h
 |k::r,v::vs,ks,is,K,I,h=>by
  rw[putAll]at h
  split at h
  ·cases h
  ·have:=putAll_sz r vs _ _ K I h
   rw[szT_insA,szVs_insA]at this
   rw[szT,szVs_cons]
   omega
theorem objV_sz (ks:List ByteArray)(is:List V):szV (objV ks is)<=1+szT ks+szVs is:=by
 unfold objV
 split
 ·rename_i k l h
  have:=putAll_sz _ _ _ _ _ _ h
  rw[szV_eq]
  simp only[V.s_mk,V.keys_mk,V.items_mk,szT,szVs_nil,ByteArray.size_empty]at this ⊢
  omega
 ·rw[szV_eq]
  simp[vZero,V.s,V.keys,V.items,szT,szVs_nil]
  omega
theorem rItems_ok {s:ByteArray}{f:Nat->An}(hf:∀i,i<=s.size->AnOk s i (f i))(b:Nat):∀n i l,b<i->i<=s.size->1+szVs l<=5*(i-b)->AnOk s b (rItems s f n i l)
 |0,i,l,h0,hi,hl=> .bad (by decide)
 |n+1,i,l,h0,hi,hl=>by
  rw[rItems]
  split
  ·exact .bad (by assumption)
  ·rename_i h1
   have a:=hf i hi (by omega)
   have t:=tk_ok s (f i).at_ a.2.1
   split
   ·exact .bad (by assumption)
   ·rename_i h2
    have h2':nE s (f i).at_=0:=by omega
    have hl2:szVs (l++[(f i).v])=szVs l+szV (f i).v:=by rw[szVs_app,szVs_cons,szVs_nil]; omega
    split
    ·rename_i h3
     have t1:=t.lt h2' (by rw[sign_kind h3]; decide)
     have t2:=t.le
     intro _
     refine⟨?_,?_,?_⟩
     ·show b<nQ _ _; omega
     ·exact t2
     ·show szV (.mk 4 false 0 ByteArray.empty (l++[(f i).v]) [])<=5*(nQ s (f i).at_-b)
      rw[szV_eq]
      simp only[V.s_mk,V.keys_mk,V.items_mk,szT,ByteArray.size_empty]
      omega
    ·split
     ·rename_i h4
      have t1:=t.lt h2' (by rw[sign_kind h4]; decide)
      exact rItems_ok hf b n _ _ (by omega) t.le (by rw[hl2]; omega)
     ·exact .bad (by decide)
theorem rMems_ok {s:ByteArray}{f:Nat->An}(hf:∀i,i<=s.size->AnOk s i (f i))(b:Nat):∀n i ks l,b<i->i<=s.size->1+szT ks+szVs l<=5*(i-b)->AnOk s b (rMems s f n i ks l)
 |0,i,ks,l,h0,hi,hl=> .bad (by decide)
 |n+1,i,ks,l,h0,hi,hl=>by
  rw[rMems]
  have t1:=tk_ok s i hi
  split
  ·exact .bad (by assumption)
  rename_i e1
  split
  ·exact .bad (by decide)
  rename_i k1
  split
  ·exact .bad (by decide)
  have t2:=tk_ok s (nQ s i) t1.le
  split
  ·exact .bad (by assumption)
  rename_i e2
  split
  ·exact .bad (by decide)
  rename_i k2
  have a0:=hf (nQ s (nQ s i)) t2.le
  split
  ·exact .bad (by assumption)
  rename_i e3
  have a:=a0 (by omega)
  have t3:=tk_ok s _ a.2.1
  split
  ·exact .bad (by assumption)
  rename_i e4
  have p1:=t1.lt (by omega) (by omega)
  have p2:=t2.lt (by omega) (by rw[sign_kind (c:=58) (by simpa using k2)]; decide)
  have z1:=t1.size
  have hl2:szVs (l++[(f (nQ s (nQ s i))).v])=szVs l+szV (f (nQ s (nQ s i))).v:=by rw[szVs_app,szVs_cons,szVs_nil]; omega
  have hk2:szT (ks++[(nT s i).text])=szT ks+(1+(nT s i).text.size):=by rw[szT_appA,szT,szT]; rfl
  split
  ·rename_i h3
   have p3:=t3.lt (by omega) (by rw[sign_kind h3]; decide)
   intro _
   refine⟨?_,?_,?_⟩
   ·show b<nQ _ _; omega
   ·exact t3.le
   ·show szV (objV _ _)<=5*(nQ _ _-b)
    have:=objV_sz (ks++[(nT s i).text]) (l++[(f (nQ s (nQ s i))).v])
    omega
  ·split
   ·rename_i h4
    have p3:=t3.lt (by omega) (by rw[sign_kind h4]; decide)
    exact rMems_ok hf b n _ _ _ (by omega) t3.le (by rw[hl2,hk2]; omega)
   ·exact .bad (by decide)
theorem rLeaf_ok {s:ByteArray}{i:Nat}(hi:i<=s.size)(h:nE s i=0){v:V}(hv:rLeaf (nT s i)=some v):i<nQ s i/\nQ s i<=s.size/\szV v<=5*(nQ s i-i):=by
 have t:=tk_ok s i hi
 have hk:(nT s i).kind≠0:=fun e=>by unfold rLeaf at hv; rw[e]at hv; simp at hv
 have:=t.lt h hk
 have z:=t.size
 refine⟨this,t.le,?_⟩
 unfold rLeaf at hv
 repeat' split at hv
 all_goals first|(cases hv; done)|(obtain rfl:=Option.some.inj hv; rw[szV_eq]; simp only[vZero,V.s_mk,V.keys_mk,V.items_mk,szT,szVs_nil,ByteArray.size_empty]; omega)
theorem rVh_ok {s:ByteArray}{i:Nat}(hi:i<=s.size){g:An}(hg:nE s i=0->(nT s i).kind=1->AnOk s i g):AnOk s i (rVh s i g):=by
 unfold rVh
 split
 ·exact .bad (by assumption)
 rename_i e1
 have e1':nE s i=0:=by omega
 split
 ·rename_i v hv
  intro _
  exact rLeaf_ok hi e1' hv
 ·split
  ·exact .bad (by decide)
  ·rename_i hs
   refine hg e1' ?_
   cases h:(nT s i).sign 91 with
   |true=>exact sign_kind h
   |false=>
    cases h':(nT s i).sign 123 with
    |true=>exact sign_kind h'
    |false=>exact absurd ⟨h,h'⟩ hs
theorem rArr_ok {s:ByteArray}{f:Nat->An}(ih:∀i,i<=s.size->AnOk s i (f i)){i:Nat}(hi:i<=s.size)(h1:nE s i=0)(hk:(nT s i).kind=1):AnOk s i (rArr s f (nQ s i)):=by
 have t:=tk_ok s i hi
 have p:=t.lt h1 (by omega)
 have t2:=tk_ok s (nQ s i) t.le
 unfold rArr
 split
 ·exact .bad (by assumption)
 rename_i e2
 split
 ·rename_i h3
  have p3:=t2.lt (by omega) (by rw[sign_kind h3]; decide)
  intro _
  refine⟨?_,t2.le,?_⟩
  ·show i<nQ _ _; omega
  ·show szV (.mk 4 false 0 ByteArray.empty [] [])<=5*(nQ _ _-i)
   rw[szV_eq]
   simp only[V.s_mk,V.keys_mk,V.items_mk,szT,szVs_nil,ByteArray.size_empty]
   omega
 ·exact rItems_ok ih i _ _ _ (by omega) t.le (by rw[szVs_nil]; omega)
theorem rObj_ok {s:ByteArray}{f:Nat->An}(ih:∀i,i<=s.size->AnOk s i (f i)){i:Nat}(hi:i<=s.size)(h1:nE s i=0)(hk:(nT s i).kind=1):AnOk s i (rObj s f (nQ s i)):=by
 have t:=tk_ok s i hi
 have p:=t.lt h1 (by omega)
 have t2:=tk_ok s (nQ s i) t.le
 unfold rObj
 split
 ·exact .bad (by assumption)
 rename_i e2
 split
 ·rename_i h3
  have p3:=t2.lt (by omega) (by rw[sign_kind h3]; decide)
  intro _
  refine⟨?_,t2.le,?_⟩
  ·show i<nQ _ _; omega
  ·show szV (.mk 5 false 0 ByteArray.empty [] [])<=5*(nQ _ _-i)
   rw[szV_eq]
   simp only[V.s_mk,V.keys_mk,V.items_mk,szT,szVs_nil,ByteArray.size_empty]
   omega
 ·exact rMems_ok ih i _ _ _ _ (by omega) t.le (by rw[szT,szVs_nil]; omega)
theorem rV_ok (s:ByteArray):∀k i,i<=s.size->AnOk s i (rV s k i)
 |0,i,hi=>by
  rw[rV]
  exact rVh_ok hi (fun _ _=> .bad (by decide))
 |k+1,i,hi=>by
  rw[rV]
  refine rVh_ok hi (fun h1 hk=>?_)
  split
  ·exact rArr_ok (rV_ok s k) hi h1 hk
  ·exact rObj_ok (rV_ok s k) hi h1 hk
end Go.Proofs.YtcgmpcbkndpmbaaGreatDoor

end
section
namespace Go.Pw
open Go Go.RowKit
set_option linter.unusedVariables false
set_option linter.unusedSimpArgs false
section
variable {P:Program} {own:Nat->Prop} {S0:Base} {w0 w:World} {C:Cx} {U V:Nat->Prop} {st:PS}
theorem Rel.freezeBoxK (R:Rel own S0 w0 C U V st w){i:Nat}{T:TypeId}{cs ds:List PV}(k:Nat)(ho:lkp st.heap i=some (.box T cs))(hf:fzL (cs.take k)=some ds) :
  ∃S1,Rel own S0 w0 { C with S:=S1 } U V { st with heap:=dropH [i] st.heap } w/\Ext C { C with S:=S1 } st.toks st.toks U V U V /\
   ∀(off:Nat) (j:Nat) (p:PV),(ds.drop off)[j]? = some p->∃u,S1 (C.ρ i) (off+j)=some u/\RepF S1 u p:=by
 let S1:Cells:=fun b o=>if b=C.ρ i then w.cell? ⟨b,o,none⟩ else C.S b o
 obtain⟨vs,hb,hs,hv⟩:=R.box i T cs ho
 obtain⟨k1,k2,k3,k4⟩:=R.hown i _ ho
 have le:SLe C.S S1:=fun b o v h=>by
  show(if _ then _ else _)=_
  by_cases e:b=C.ρ i
  ·rw[if_pos e]; exact R.stable b o v h
  ·rw[if_neg e]; exact h
 have out:∀b o,b≠C.ρ i->S1 b o=C.S b o:=fun b o h=>if_neg h
 have X:Ext C { C with S:=S1 } st.toks st.toks U V U V:=⟨le,fun _ _=>rfl,fun k t _ h=>⟨t,h,Nat.le_refl _,rfl,fun _=>rfl⟩,fun _ h=>h,fun _ h=>h⟩
 have hd:∀j o,lkp (dropH [i] st.heap) j=some o->j≠i/\lkp st.heap j=some o:=fun j o h=>by
  rw[dropH_lkp]at h
  split at h
  ·cases h
  ·rename_i hn; exact⟨by simpa using hn,h⟩
 have apart:∀j o,lkp (dropH [i] st.heap) j=some o->C.ρ j≠C.ρ i:=fun j o h e=>(hd j o h).1 (R.hinj j i o _ (hd j o h).2 ho e)
 refine⟨S1,⟨R.frame,fun b o v h=>?_,fun j T' cs' h=>?_,fun j s pos h=>R.iter j s pos (hd j _ h).2,fun j o h=>?_,fun a b oa ob h1 h2=>R.hinj a b oa ob (hd _ _ h1).2 (hd _ _ h2).2,fun k t h=>?_,fun j oj k t h1 h2=>R.tbox j oj k t (hd _ _ h1).2 h2,R.tinj,fun b o v h=>?_,fun b o v h=>le _ _ _ (R.sold b o v h),R.base.trans X,R.glob⟩,X,fun off j p hp=>?_⟩
 ·replace h:(if b=C.ρ i then w.cell? ⟨b,o,none⟩ else C.S b o)=some v:=h
  split at h
  ·exact h
  ·exact R.stable b o v h
 ·obtain⟨us,h1,h2,h3⟩:=R.box j T' cs' (hd j _ h).2
  exact⟨us,h1,h2,fun a v p hv hp=>⟨(h3 a v p hv hp).1,(h3 a v p hv hp).2.ext X⟩⟩
 ·obtain⟨h1,h2,h3,h4⟩:=R.hown j o (hd j o h).2
  exact⟨h1,h2,h3,fun o'=>(out _ _ (apart j o h)).trans (h4 o')⟩
 ·obtain⟨h1,h2,h3,h4,h5,h6⟩:=R.tok k t h
  exact⟨h1,h2,h3,h4,h5,fun o ho'=>(out _ _ (fun e=>R.tbox i _ k t ho h e.symm)).trans (h6 o ho')⟩
 ·replace h:(if b=C.ρ i then w.cell? ⟨b,o,none⟩ else C.S b o)=some v:=h
  split at h
  ·rename_i e; rw[e]; exact .inr k3
  ·exact R.snew b o v h
 ·rw[List.getElem?_drop]at hp
  obtain⟨e1,e2⟩:=fzL_get hf
  have hi0:off+j<(cs.take k).length:=by rw[e1]; exact(List.getElem?_eq_some_iff.1 hp).1
  rw[List.length_take]at hi0
  have hi:off+j<cs.length:=by omega
  have hc:=List.getElem?_eq_getElem hi
  have hc0:(cs.take k)[off+j]? = some cs[off+j]:=by rw[List.getElem?_take_of_lt (by omega)]; exact hc
  have hvi:vs[off+j]? = some (vs[off+j]'(by omega)):=Array.getElem?_eq_getElem (by omega)
  refine⟨_,?_,(fz_rep (C:=C) (e2 _ _ p hc0 hp) (hv _ _ _ hvi hc).2).mono le⟩
  show(if _ then _ else _)=_
  rw[if_pos rfl,cell_of_row w (C.ρ i) (off+j) vs T (0,0) hb]
  exact hvi
mutual
def PV.mf (i sz:Nat)(ds:List PV):PV->PV
 | .val v=> .val v
 | .sl xs=> .sl xs
 | .row k xs=> .row k xs
 | .ptr j o=> .ptr j o
 | .ms j lo n c=>if j=i/\lo+n*sz<=ds.length then .sl (chunks sz n (ds.drop lo)) else .ms j lo n c
 | .fp cs=> .fp cs
 | .agg cs=> .agg (PV.mfL i sz ds cs)
 | .tup cs=> .tup (PV.mfL i sz ds cs)
 | .fn h cs=> .fn h (PV.mfL i sz ds cs)
 | .bm h cs=> .bm h (PV.mfL i sz ds cs)
 | .iface t p=> .iface t (PV.mf i sz ds p)
def PV.mfL (i sz:Nat)(ds:List PV):List PV->List PV
 | []=>[]
 |p::r=>PV.mf i sz ds p::PV.mfL i sz ds r
end
theorem mfL_get {i sz:Nat}{ds:List PV}:∀{cs:List PV}(j:Nat),(PV.mfL i sz ds cs)[j]? = (cs[j]?).map (PV.mf i sz ds)
 | [],j=>by simp[PV.mfL]
 |p::r,0=>by simp[PV.mfL]
 |p::r,j+1=>by simp[PV.mfL,mfL_get j]
theorem mfL_len {i sz:Nat}{ds:List PV}:∀{cs:List PV},(PV.mfL i sz ds cs).length=cs.length
 | []=>rfl
 |p::r=>by rw[PV.mfL,List.length_cons,mfL_len,List.length_cons]
theorem RepV.mf {T:List (Nat×Tok)}{i sz:Nat}{ds:List PV}(h:∀(off:Nat)(j:Nat)(p:PV),(ds.drop off)[j]? = some p->∃u,C.S (C.ρ i) (off+j)=some u/\RepF C.S u p){v:Value}{p:PV}(r:RepV C T U V v p):RepV C T U V v (p.mf i sz ds):=by
 induction r with
 | @frz v p h'=>
  cases h' with
  |val h1=>exact .frz (.val h1)
  |sl f a b c d e=>exact .frz (.sl f a b c d e)
 |row h hk ht=>exact .row h hk ht
 |ptr hU=>exact .ptr hU
 | @ms id lo n cap hU hc=>
  simp only[PV.mf]
  split
  ·rename_i e
   obtain⟨rfl,e⟩:=e
   have cell:∀j k,j<n->k<sz->∃u p,C.S (C.ρ id) (lo+(j*sz+k))=some u/\ds[lo+(j*sz+k)]? = some p/\RepF C.S u p:=fun j k hj hk=>by
    have h1:(j+1)*sz<=n*sz:=Nat.mul_le_mul_right sz hj
    rw[Nat.add_mul,Nat.one_mul]at h1
    have hlt:lo+(j*sz+k)<ds.length:=by omega
    obtain⟨u,h2,h3⟩:=h lo (j*sz+k) ds[lo+(j*sz+k)] (by rw[List.getElem?_drop]; exact List.getElem?_eq_getElem hlt)
    exact⟨u,_,h2,List.getElem?_eq_getElem hlt,h3⟩
   refine .frz (.sl (sz:=sz) (fun j k=>(C.S (C.ρ id) (lo+(j*sz+k))).getD (.bool false)) (chunks_len _ _ _) hc (fun x hx=>?_) (fun h0=>⟨_,_,rfl,fun j k hj hk=>?_⟩) (fun j k x p hx hp=>?_))
   ·obtain⟨j,hj,rfl⟩:=List.mem_iff_getElem.1 hx
    rw[chunks_len]at hj
    have hj2:=chunks_get (sz:=sz) (cs:=ds.drop lo) hj
    rw[List.getElem?_eq_getElem (by rw[chunks_len]; exact hj)]at hj2
    obtain hj3:=Option.some.inj hj2
    rw[hj3,List.length_take,List.length_drop,List.length_drop]
    have h1:(j+1)*sz<=n*sz:=Nat.mul_le_mul_right sz hj
    rw[Nat.add_mul,Nat.one_mul]at h1
    omega
   ·obtain⟨u,p,h1,_,_⟩:=cell j k hj hk
    rw[h1]; rfl
   ·have hj:j<n:=by
     have:=(List.getElem?_eq_some_iff.1 hx).1
     rwa [chunks_len]at this
    rw[chunks_get hj]at hx
    obtain rfl:=Option.some.inj hx
    have hk:k<sz:=by
     have:=(List.getElem?_eq_some_iff.1 hp).1
     rw[List.length_take]at this
     omega
    obtain⟨u,q,h1,h2,h3⟩:=cell j k hj hk
    rw[List.getElem?_take_of_lt hk,List.getElem?_drop,List.getElem?_drop]at hp
    rw[h2]at hp
    obtain rfl:=Option.some.inj hp
    rw[h1]
    exact h3
  ·exact .ms hU hc
 |fp h=>exact .fp h
 |agg hs h h1 ih=>
  refine .agg (by rw[mfL_len]; exact hs) (fun i v p hv hp=>?_) h1
  rw[mfL_get]at hp
  obtain⟨q,hq,rfl⟩:=Option.map_eq_some_iff.1 hp
  exact ih i v q hv hq
 |tup hs h ih=>
  refine .tup (by rw[mfL_len]; exact hs) (fun i v p hv hp=>?_)
  rw[mfL_get]at hp
  obtain⟨q,hq,rfl⟩:=Option.map_eq_some_iff.1 hp
  exact ih i v q hv hq
 |fn hs h ih=>
  refine .fn (by rw[mfL_len]; exact hs) (fun i v p hv hp=>?_)
  rw[mfL_get]at hp
  obtain⟨q,hq,rfl⟩:=Option.map_eq_some_iff.1 hp
  exact ih i v q hv hq
 |bm hs h ih=>
  refine .bm (by rw[mfL_len]; exact hs) (fun i v p hv hp=>?_)
  rw[mfL_get]at hp
  obtain⟨q,hq,rfl⟩:=Option.map_eq_some_iff.1 hp
  exact ih i v q hv hq
 |iface h ih=>exact .iface ih
def endG (P:Program)(L:Nat×Nat)(Q:PV->PS->Prop)(l:List PV)(st:PS):Prop:=
 (∃st',Q (packR (l.map frR)) st'/\Weak L { st with env:=[(0,packR (l.map frR))] } { st' with env:=[(0,packR (l.map frR))] }) ∨
 ∃(i:Nat) (T:TypeId) (cs ds:List PV) (sz k:Nat),lkp st.heap i=some (.box T cs)/\fzL (cs.take k)=some ds /\
  ∃st',Q (packR ((l.map (PV.mf i sz ds)).map frR)) st'/\Weak L { st with heap:=dropH [i] st.heap,env:=[(0,packR ((l.map (PV.mf i sz ds)).map frR))] } { st' with env:=[(0,packR ((l.map (PV.mf i sz ds)).map frR))] }
def outG (P:Program)(fn:Func)(L:Nat×Nat)(Q:PV->PS->Prop):Exit->PS->Prop
 | .normal,st=>bindO (resAll P st fn.results.toList) fun l=>endG P L Q l st
 | .ret,st=>bindO (resAll P st fn.results.toList) fun l=>endG P L Q l st
 |_,_=>False
theorem OkI.of_pwpG (hm:P.follows .mixedOrders=true){f:FuncId}{fn:Func}{c:Code}{args:List PV}{st:PS}{Q:PV->PS->Prop}(hf:P.funcs[f]? = some fn)(hb:fn.body=some c)(hent:enters P f=true)
  {bar:Nat->Option Nat} (hfit:fitsC bar (args.length+(fn.ntmps-args.length)) c=true) (h:pwp P ⟨(st.nx,st.nt),bar⟩ c { st with env:=enterEnv 0 args } (outG P fn (st.nx,st.nt) Q)):OkI P f args st Q:=by
 refine⟨hent,fun own S0 w0 w C vals R hsz hrep=>?_⟩
 refine calls_of_wp hf hb ?_
 have hst:Stt own ⟨S0.S,C,st.toks,(· < st.nx),(· < st.nt)⟩ w0 (args.length+(fn.ntmps-args.length)) { st with env:=enterEnv 0 args } { tmps:=vals++Array.replicate (fn.ntmps-vals.size) undef,defers:=[] } w:=by
  refine⟨rfl,by simp[hsz],C,⟨R.frame,R.stable,R.box,R.iter,R.hown,R.hinj,R.tok,R.tbox,R.tinj,R.snew,R.sold,Ext.refl _ _ _ _,R.glob⟩,?_⟩
  intro t p h
  obtain⟨_,h2⟩:=enterEnv_lkp args 0 t p h
  rw[Nat.sub_zero]at h2
  have ht:t<vals.size:=by rw[hsz]; exact(List.getElem?_eq_some_iff.1 h2).1
  have hv:vals[t]? = some vals[t]:=Array.getElem?_eq_getElem ht
  refine⟨vals[t],?_,hrep t _ p hv h2⟩
  show(vals++Array.replicate _ undef)[t]? = _
  rw[Array.getElem?_append_left ht]
  exact hv
 refine wp_mono (pwp_sound hm ⟨fun _ h=>h,fun _ h=>h⟩ c _ _ _ w hfit h hst) ?_
 have core:∀(s:PS) (w':World) (C1:Cx) (v:Value) (r:PV) (st':PS),Rel own ⟨S0.S,C,st.toks,(· < st.nx),(· < st.nt)⟩ w0 C1 (· < s.nx) (· < s.nt) s w'->RepV C1 s.toks (· < s.nx) (· < s.nt) v r->Weak (st.nx,st.nt) { s with env:=[(0,r)] } { st' with env:=[(0,r)] } ->
   ∃C2,Rel own S0 w0 C2 (· < st'.nx) (· < st'.nt) st' w'/\Ext C C2 st.toks st'.toks (· < st.nx) (· < st.nt) (· < st'.nx) (· < st'.nt)/\RepV C2 st'.toks (· < st'.nx) (· < st'.nt) v r:=by
  intro s w' C1 v r st' R1 hrep hw
  have hs1:Stt own ⟨S0.S,C,st.toks,(· < st.nx),(· < st.nt)⟩ w0 1 { s with env:=[(0,r)] } { tmps:= #[v],defers:=[] } w':=by
   refine⟨rfl,rfl,C1,R1.env_ _,?_⟩
   intro t p h
   simp only[lkp]at h
   split at h
   ·rename_i e
    subst e
    obtain rfl:=Option.some.inj h
    exact⟨v,rfl,hrep⟩
   ·cases h
  obtain⟨_,_,C2,R2,E2⟩:=hs1.weak ⟨fun _ h=>h,fun _ h=>h⟩ hw
  obtain⟨u,hu,hr⟩:=E2 0 r (by simp[lkp])
  have hu':u=v:=by simpa using hu.symm
  subst hu'
  have R3:=R2.env_ st'.env
  exact⟨C2,⟨R3.frame,R3.stable,R3.box,R3.iter,R3.hown,R3.hinj,R3.tok,R3.tbox,R3.tinj,R3.snew,R3.sold,R.base.trans R2.base,R.glob⟩,R2.base,hr⟩
 have fin:∀(s:PS) (a':Act) (w':World),Stt own ⟨S0.S,C,st.toks,(· < st.nx),(· < st.nt)⟩ w0 (args.length+(fn.ntmps-args.length)) s a' w' ->
   (bindO (resAll P s fn.results.toList) fun l=>endG P (st.nx,st.nt) Q l s) ->
   a'.defers=[]/\∃v,(results fn a'.tmps).run P w' = .ok v w'/\∃r st' v' C',Q r st'/\Ending.returned v=Ending.returned v'/\Rel own S0 w0 C' (· < st'.nx) (· < st'.nt) st' w' /\
    Ext C C' st.toks st'.toks (· < st.nx) (· < st.nt) (· < st'.nx) (· < st'.nt)/\RepV C' st'.toks (· < st'.nx) (· < st'.nt) v' r:=by
  intro s a' w' ⟨h1,h2,C1,R1,E1⟩ hk
  replace hk:=bindO_elim hk
  obtain⟨l,hl,hk⟩:=hk
  obtain⟨vs,g1,g2,g3⟩:=resAll_sound (P:=P) R1 E1 _ _ hl
  have hrun:(results fn a'.tmps).run P w' = .ok (if h:vs.toArray.size=1 then vs.toArray[0] else .tuple vs.toArray) w':=by
   rw[results_eq,Array.mapM_eq_mapM_toList,Sem.run_bind,Sem.run_map,g1]
   rfl
  rcases hk with⟨st',hQ,hw⟩|⟨i,T,cs,ds,sz,k,ho,hfz,st',hQ,hw⟩
  ·have hrep:=packR_rep (vs:=vs) (l:=l.map frR) (by rw[List.length_map]; exact g2) (fun i v p hv hp=>by
    rw[List.getElem?_map]at hp
    obtain⟨q,hq,rfl⟩:=Option.map_eq_some_iff.1 hp
    exact frR_rep (g3 i v q hv hq))
   generalize (if h:vs.toArray.size=1 then vs.toArray[0] else .tuple vs.toArray)=v at hrun hrep
   obtain⟨C2,c1,c2,c3⟩:=core s w' C1 v _ st' R1 hrep hw
   exact⟨h1,v,hrun,_,st',v,C2,hQ,rfl,c1,c2,c3⟩
  ·obtain⟨S1,R2,X,hc⟩:=R1.freezeBoxK k ho hfz
   have hrep:=packR_rep (vs:=vs) (l:=(l.map (PV.mf i sz ds)).map frR) (C:={ C1 with S:=S1 }) (T:=s.toks) (U:=(· < s.nx)) (V:=(· < s.nt)) (by rw[List.length_map,List.length_map]; exact g2) (fun k v p hv hp=>by
    rw[List.getElem?_map,List.getElem?_map]at hp
    obtain⟨q,hq,rfl⟩:=Option.map_eq_some_iff.1 hp
    obtain⟨q',hq',rfl⟩:=Option.map_eq_some_iff.1 hq
    exact frR_rep (RepV.mf (C:={ C1 with S:=S1 }) hc ((g3 k v q' hv hq').ext X)))
   generalize (if h:vs.toArray.size=1 then vs.toArray[0] else .tuple vs.toArray)=v at hrun hrep
   obtain⟨C2,c1,c2,c3⟩:=core { s with heap:=dropH [i] s.heap } w' { C1 with S:=S1 } v _ st' R2 hrep hw
   exact⟨h1,v,hrun,_,st',v,C2,hQ,rfl,c1,c2,c3⟩
 rintro e a' w' ⟨s,hq,hs⟩
 cases e with
 |normal=>exact fin s a' w' hs hq
 |ret=>exact fin s a' w' hs hq
 |_=>exact hq.elim
end
theorem p_join {P:Program}{L:Lim}{a b:Code}{st:PS}{Q:Exit->PS->Prop}{D:Type}(I:D->PS)(hb:∀d st,Weak L.l st (I d)->pwp P L b st Q)(h:∀K:PS->Prop,(∀d st,Weak L.l st (I d)->K st)->pwp P L a st (fun x st'=>match x with | .normal=>K st'|x=>Q x st')):pwp P L (.seq a b) st Q:=h _ hb
theorem p_weak {P:Program}{l0:Nat×Nat}{st:PS}{Q:Exit->PS->Prop}{bar:Nat->Option Nat}{r:Nat}{l:List Oper}{st':PS}(hw:Weak l0 st st')(h:pwp P ⟨l0,noBar⟩ (.region r l.toArray false) st' Q)(hb:bar r=some 1000:=by rfl):pwp P ⟨l0,bar⟩ (.region r l.toArray false) st Q:=by
 simp only[pwp,hb,if_true]at h ⊢
 exact⟨st',hw,h⟩
attribute [go_sem] PV.mf PV.mfL outG
end Go.Pw

end
section
open Go Go.Proofs Go.Pw Go.RowKit
namespace Go.Proofs.YtcgmpcbkndpmbaaGreatDoor
set_option maxRecDepth 4000
set_option linter.unusedVariables false
set_option linter.unusedSimpArgs false
attribute [local go_sem] Nat.le_refl Tk.cells Tryz.results28 Tryz.results30 Tryz.results48 Tryz.results75 str_eq
structure RS where
 tk:Tk
 i:Nat
 place:Int
 code:Int
abbrev rdC (D:Int)(r:RS):List PV:=[vI r.tk.kind,vS r.tk.text,vI r.tk.int,vI r.tk.at_,vI r.tk.stop,vI D,vI r.place,vI r.code]
abbrev rdH (s:ByteArray)(D:Int)(r:RS):List (Nat×PObj):=[(0,.box 69 (.ptr 1 0::rdC D r)),(1,.box 94 [vS s,vI r.i])]
def RdQ {X:Type}(s:ByteArray)(D:Int)(P:X->Prop)(R:X->PV)(rs:X->RS)(r:PV)(st:PS):Prop:=∃x,P x/\r=R x/\st.heap=rdH s D (rs x)/\st.toks=[]/\st.nx=2
def RdOk {X:Type}(g:FuncId)(ags:List PV)(s:ByteArray)(D:Int)(r:RS)(P:X->Prop)(R:X->PV)(rs:X->RS):Prop:=OkI Tryz.prog g (.ptr 0 0::ags) ⟨[],rdH s D r,[],2,0⟩ (RdQ s D P R rs)
theorem RdOk.at {X:Type}{g:FuncId}{ags:List PV}{s:ByteArray}{D:Int}{r0:RS}{P:X->Prop}{R:X->PV}{rs:X->RS}(h:RdOk g ags s D r0 P R rs)(i j:Nat){st:PS}(hij:i≠j)(hi:i<st.nx)(hj:j<st.nx)(hag:PV.ltL 0 0 ags=true)(hR:∀x,P x->(R x).lt 0 0=true)
  (ho:lkp st.heap i=some (.box 69 (.ptr j 0::rdC D r0))) (hp:lkp st.heap j=some (.box 94 [vS s,vI r0.i])) :
  OkI Tryz.prog g (.ptr i 0::ags) st (fun r st'=>∃x,P x/\r=R x/\∃nt',st.nt<=nt'/\st'=⟨st.env,(i,.box 69 (.ptr j 0::rdC D (rs x)))::(j,.box 94 [vS s,vI (rs x).i])::dropH [i,j] st.heap,st.toks,st.nx,nt'⟩):=by
 have hf0:rnF [i,j] st.nx 0=i:=rfl
 have hf1:rnF [i,j] st.nx 1=j:=rfl
 refine OkI.mono' (OkI.frameT [i,j] [] h (by simp[hij]) (fun k hk=>by simp at hk; rcases hk with rfl|rfl<;>assumption) (by simp) (fun j hj=>by cases hj) (fun e he=>?_) (fun e he=>by cases he) ?_ ?_) ?_
 ·simp only[rdH,List.mem_cons,List.not_mem_nil,or_false]at he
  rcases he with rfl|rfl
  ·refine⟨Nat.zero_lt_succ _,?_,?_⟩
   ·show PV.ltL 2 0 (.ptr 1 0::rdC D r0)=true
    rfl
   ·show lkp st.heap i=_
    rw[ho]; rfl
  ·refine⟨Nat.lt_succ_self _,rfl,?_⟩
   show lkp st.heap j=_
   rw[hp]; rfl
 ·simp only[PV.ltL,PV.lt,List.length_cons,List.length_nil,Nat.zero_add]
  have:=ltL_low (Nat.zero_le 2) (Nat.zero_le 0) ags hag
  rw[this]
  rfl
 ·rw[PV.rmL,rmL_frz ags hag]; rfl
 ·rintro r st' ⟨r1,s0,⟨x,h0,rfl,h3,h4,h5⟩,rfl,rfl⟩
  refine⟨x,h0,rm_frz _ (hR x h0),s0.nt-0+st.nt,by omega,?_⟩
  rw[h3,h4,h5]
  simp only[rmH,rmK,PObj.rm,PV.rmL,PV.rm,hf0,hf1,List.length_cons,List.length_nil,List.cons_append,List.nil_append,dropK_nil]
  have h2:2-(0+1+1)+st.nx=st.nx:=by omega
  rw[h2]
def nxtB (s:ByteArray)(r:RS):Bool:=decide (nE s r.i=0)
def nxtR (s:ByteArray)(r:RS):RS:=if nE s r.i=0 then⟨nT s r.i,nQ s r.i,r.place,r.code⟩ else⟨r.tk,nQ s r.i,nP s r.i,nE s r.i⟩
theorem str_one (t:ByteArray)(c:UInt8):(t.data.toList=[c])=(t=⟨#[c]⟩):=str_eq t ⟨#[c]⟩
set_option maxHeartbeats 8000000 in
theorem rd_fail (s:ByteArray)(D:Int)(r:RS)(p e:Int):RdOk 30 [vI p,vI e] s D r (fun _:Unit=>True) (fun _=>vB false) (fun _=>⟨r.tk,r.i,p,e⟩):=by
 refine OkI.of_pwp (by kernel_rfl) Tryz.func30 rfl (by kernel_rfl) (by kernel_rfl) ?_
 simp -implicitDefEqProofs (disch:=omega) only[go_sem,simprocAttr,dropH,inL,str_one]
 refine⟨⟨[],rdH s D ⟨r.tk,r.i,p,e⟩,[],2,0⟩,⟨(),trivial,rfl,rfl,rfl,rfl⟩,?_⟩
 constructor<;>simp only[go_sem,simprocAttr,decide_eq_true_eq,Int.natCast_add,Int.natCast_one]<;>try ((repeat' apply And.intro)<;>first|rfl|omega|(congr 3; omega)|(congr 2; omega))
set_option maxHeartbeats 8000000 in
theorem rd_is (s:ByteArray)(D:Int)(r:RS)(c:UInt8):RdOk 48 [vS ⟨#[c]⟩] s D r (fun _:Unit=>True) (fun _=>vB (r.tk.sign c)) (fun _=>r):=by
 refine OkI.of_pwp (by kernel_rfl) Tryz.func48 rfl (by kernel_rfl) (by kernel_rfl) ?_
 unfold Tk.sign
 by_cases h1:r.tk.kind=1
 ·rw[decide_eq_true h1,Bool.true_and]
  simp -implicitDefEqProofs (disch:=omega) only[go_sem,simprocAttr,dropH,inL,str_one,h1]
  refine⟨⟨[],rdH s D r,[],2,0⟩,⟨(),trivial,rfl,rfl,rfl,rfl⟩,?_⟩
  constructor<;>simp only[go_sem,simprocAttr,decide_eq_true_eq,h1]<;>try ((repeat' apply And.intro)<;>first|rfl|omega|(congr 3; omega)|(congr 2; omega))
 ·rw[decide_eq_false h1,Bool.false_and]
  simp -implicitDefEqProofs (disch:=omega) only[go_sem,simprocAttr,dropH,inL,str_one,decide_eq_false h1]
  refine⟨⟨[],rdH s D r,[],2,0⟩,⟨(),trivial,rfl,rfl,rfl,rfl⟩,?_⟩
  constructor<;>simp only[go_sem,simprocAttr,decide_eq_true_eq,Int.natCast_add,Int.natCast_one]<;>try ((repeat' apply And.intro)<;>first|rfl|omega|(congr 3; omega)|(congr 2; omega))
set_option maxHeartbeats 8000000 in
theorem rd_next (s:ByteArray)(D:Int)(r:RS)(hi:r.i<=s.size)(hs:s.size<=100000):RdOk 28 [] s D r (fun _:Unit=>True) (fun _=>vB (nxtB s r)) (fun _=>nxtR s r):=by
 refine OkI.of_pwp (by kernel_rfl) Tryz.func28 rfl (by kernel_rfl) (by kernel_rfl) ?_
 have c1:=next_ok s r.i hi hs
 have cf:=rd_fail s D ⟨r.tk,nQ s r.i,r.place,r.code⟩ (nP s r.i) (nE s r.i)
 unfold nxtB nxtR
 simp -implicitDefEqProofs (disch:=omega) only[go_sem,simprocAttr,dropH,inL,str_one]
 refine CallOk.ofI (c1.at (st:=⟨[],_,_,_,_⟩) 1 rfl rfl (by simp) (by rfl)) rfl rfl rfl rfl ?_
 rintro r1 st' ⟨rfl,nt1,q1,rfl⟩
 by_cases h:nE s r.i=0
 ·rw[if_pos h,decide_eq_true h]
  simp -implicitDefEqProofs (disch:=omega) only[go_sem,simprocAttr,dropH,inL,str_one,h]
  refine⟨⟨[],rdH s D ⟨nT s r.i,nQ s r.i,r.place,r.code⟩,[],2,0⟩,⟨(),trivial,rfl,rfl,rfl,rfl⟩,?_⟩
  constructor<;>simp only[go_sem,simprocAttr,decide_eq_true_eq,Int.natCast_add,Int.natCast_one]<;>try ((repeat' apply And.intro)<;>first|rfl|omega|(congr 3; omega)|(congr 2; omega))
 ·rw[if_neg h,decide_eq_false h]
  simp -implicitDefEqProofs (disch:=omega) only[go_sem,simprocAttr,dropH,inL,str_one,decide_eq_false h]
  refine CallOk.ofI (cf.at (st:=⟨[],_,_,_,_⟩) 0 1 (by decide) (by simp) (by simp) rfl (fun _ _=>rfl) (by rfl) (by rfl)) rfl rfl rfl rfl ?_
  rintro r1 st' ⟨_,_,rfl,nt2,q2,rfl⟩
  simp -implicitDefEqProofs (disch:=omega) only[go_sem,simprocAttr,dropH,inL,str_one]
  refine⟨⟨[],rdH s D ⟨r.tk,nQ s r.i,nP s r.i,nE s r.i⟩,[],2,0⟩,⟨(),trivial,rfl,rfl,rfl,rfl⟩,?_⟩
  constructor<;>simp only[go_sem,simprocAttr,decide_eq_true_eq,Int.natCast_add,Int.natCast_one]<;>try ((repeat' apply And.intro)<;>first|rfl|omega|(congr 3; omega)|(congr 2; omega))
def needR (c:UInt8)(r:RS):RS:=if r.tk.sign c=true then r else⟨r.tk,r.i,r.tk.at_,1⟩
set_option maxHeartbeats 8000000 in
theorem rd_need (s:ByteArray)(D:Int)(r:RS)(c:UInt8):RdOk 75 [vS ⟨#[c]⟩] s D r (fun _:Unit=>True) (fun _=>vB (r.tk.sign c)) (fun _=>needR c r):=by
 refine OkI.of_pwp (by kernel_rfl) Tryz.func75 rfl (by kernel_rfl) (by kernel_rfl) ?_
 have c1:=rd_is s D r c
 have cf:=rd_fail s D r r.tk.at_ 1
 unfold needR
 simp -implicitDefEqProofs (disch:=omega) only[go_sem,simprocAttr,dropH,inL,str_one]
 refine CallOk.ofI (c1.at (st:=⟨[],_,_,_,_⟩) 0 1 (by decide) (by simp) (by simp) rfl (fun _ _=>rfl) (by rfl) (by rfl)) rfl rfl rfl rfl ?_
 rintro r1 st' ⟨_,_,rfl,nt1,q1,rfl⟩
 cases h:r.tk.sign c with
 |true=>
  rw[if_pos rfl]
  simp -implicitDefEqProofs (disch:=omega) only[go_sem,simprocAttr,dropH,inL,str_one,h]
  refine⟨⟨[],rdH s D r,[],2,0⟩,⟨(),trivial,rfl,rfl,rfl,rfl⟩,?_⟩
  constructor<;>simp only[go_sem,simprocAttr,decide_eq_true_eq,Int.natCast_add,Int.natCast_one]<;>try ((repeat' apply And.intro)<;>first|rfl|omega|(congr 3; omega)|(congr 2; omega))
 |false=>
  rw[if_neg (by decide)]
  simp -implicitDefEqProofs (disch:=omega) only[go_sem,simprocAttr,dropH,inL,str_one,h]
  refine CallOk.ofI (cf.at (st:=⟨[],_,_,_,_⟩) 0 1 (by decide) (by simp) (by simp) rfl (fun _ _=>rfl) (by rfl) (by rfl)) rfl rfl rfl rfl ?_
  rintro r1 st' ⟨_,_,rfl,nt2,q2,rfl⟩
  simp -implicitDefEqProofs (disch:=omega) only[go_sem,simprocAttr,dropH,inL,str_one]
  refine⟨⟨[],rdH s D ⟨r.tk,r.i,r.tk.at_,1⟩,[],2,0⟩,⟨(),trivial,rfl,rfl,rfl,rfl⟩,?_⟩
  constructor<;>simp only[go_sem,simprocAttr,decide_eq_true_eq,Int.natCast_add,Int.natCast_one]<;>try ((repeat' apply And.intro)<;>first|rfl|omega|(congr 3; omega)|(congr 2; omega))
end Go.Proofs.YtcgmpcbkndpmbaaGreatDoor

end
section
open Go Go.Proofs Go.RowKit Go.Lib Go.Pw
namespace Go.Proofs.YtcgmpcbkndpmbaaGreatDoor
set_option maxRecDepth 4000
set_option linter.unusedVariables false
set_option linter.unusedSimpArgs false
theorem run_append_empty {P:Program}{t e ty:TypeId}{i:TypeInfo}(ht:P.underlying t=some (.slice e))(hi:P.info? e=some i)(b:Nat)(a:Addr)(cd c:Nat)(w:World) :
  (Builtin.append_ #[t,t] ty #[.slice (some ⟨b,0,none⟩) 0 cd,.slice (some a) 0 c]).run P w = .ok (.slice (some ⟨b,0,none⟩) 0 cd) w:=by
 have hs:Src P i.size t (.slice (some a) 0 c) 0 [] w:=Src.ofSlice w ht a 0 c [] (by simp) (fun j u hj=>by simp at hj) (fun v hv=>by cases hv)
 have:=run_append_room_src (P:=P) (w:=w) t t ty e i ht hi b 0 0 cd (.slice (some a) 0 c) 0 [] hs (Nat.zero_le _) (fun j hj=>by simp at hj) (fun j hj=>by simp at hj)
 simpa [World.setCells]using this
end Go.Proofs.YtcgmpcbkndpmbaaGreatDoor

end
section
namespace Go.Pw
open Go Go.RowKit
set_option linter.unusedVariables false
set_option linter.unusedSimpArgs false
def CellsRep (w:World)(cs:List Value)(ps:List PV):Prop:=cs.length=ps.length/\∀(i:Nat) (c:Value) (p:PV),cs[i]? = some c->ps[i]? = some p->RepF (memCells w) c p
section
variable {H:Type} {en:TypeId×Value->H} {P:Program} {w:World} {base:Nat} {spare:Nat->Bool} {held:Bool}
def Rd {H:Type}(en:TypeId×Value->H)(P:Program)(w:World)(base:Nat)(spare:Nat->Bool)(held:Bool)(t:TypeId){α:Type}(e:α->List PV)(ok:α->Prop):Prop:=
 ∀(fuel:Nat) (cs:List Value) (x:DataW H×List MemPlace),DataW.trod en P w base spare held fuel t cs=some x->∃a,ok a/\CellsRep w cs (e a)
theorem CellsRep.one {c:Value}{p:PV}(h:RepF (memCells w) c p):CellsRep w [c] [p]:=
 ⟨rfl,fun i c' p' h1 h2=>by
  cases i with
  |zero=>simp at h1 h2; subst h1 h2; exact h
  |succ i=>simp at h1⟩
theorem Rd.int {t:TypeId}{k:IntKind}(ht:P.underlying t=some (.int k)):Rd en P w base spare held t (fun n:Int=>[.val (.int k n)]) (fun n=>(Lit.int k n).wf=true):=fun fuel cs x h=>by
 obtain⟨n,rfl,_,hw⟩:=DataW.trod_int ht h
 exact⟨n,hw,.one (.val rfl)⟩
theorem Rd.string {t:TypeId}(ht:P.underlying t=some .string):Rd en P w base spare held t (fun s:ByteArray=>[vS s]) (fun s=>s.size<=maxLen):=fun fuel cs x h=>by
 obtain⟨n,rfl,_,hw⟩:=DataW.trod_string ht h
 exact⟨n,hw,.one (.val rfl)⟩
theorem Rd.map {t:TypeId}{α β:Type}{e:α->List PV}{ok:α->Prop}{e':β->List PV}{ok':β->Prop}(h:Rd en P w base spare held t e ok)(g:α->β)(he:∀a,e a=e' (g a))(hk:∀a,ok a->ok' (g a)):Rd en P w base spare held t e' ok':=fun fuel cs x hx=>by
 obtain⟨a,h1,h2⟩:=h fuel cs x hx
 exact⟨g a,hk a h1,by rw[<-he]; exact h2⟩
theorem list_of {α:Type}{p:Nat->α->Prop}:∀(n:Nat),(∀i,i<n->∃a,p i a)->∃l:List α,l.length=n/\∀(i:Nat)(a:α),l[i]? = some a->p i a
 |0,_=>⟨[],rfl,fun i a h=>by simp at h⟩
 |n+1,h=>by
  obtain⟨l,h1,h2⟩:=list_of n (fun i hi=>h i (by omega))
  obtain⟨a,ha⟩:=h n (by omega)
  refine⟨l++[a],by simp[h1],fun i b hb=>?_⟩
  by_cases hi:i<n
  ·rw[List.getElem?_append_left (by omega)]at hb
   exact h2 i b hb
  ·have:i=n:=by
    have:=(List.getElem?_eq_some_iff.1 hb).1
    simp at this
    omega
   subst this
   rw[List.getElem?_append_right (by omega),h1]at hb
   simp at hb
   subst hb
   exact ha
theorem cells?_get {a:Addr}{n:Nat}{cs:List Value}(h:w.cells? base a n=some cs):cs.length=n/\∀j,j<n->w.cell? (a.add j)=cs[j]? :=by
 unfold World.cells? at h
 split at h
 ·have h1:=mapM_some_length h
  refine⟨by simpa using h1,fun j hj=>?_⟩
  exact mapM_some_get h j j (by simp[hj])
 ·cases h
theorem spot_none {a:Addr}{v:Value}(h:w.cell? a=some v):a.spot=none:=by
 unfold World.cell? at h
 split at h
 ·split at h
  ·cases h
  ·rename_i hn
   cases hs:a.spot with
   |none=>rfl
   |some x=>rw[hs]at hn; simp at hn
 ·cases h
theorem Rd.slice {t e:TypeId}{α:Type}{en':α->List PV}{ok:α->Prop}{sz:Nat}(ht:P.underlying t=some (.slice e))(hc:P.cellsOf e=sz)(h0:0<sz)(hl:∀a,(en' a).length=sz)(h:Rd en P w base spare held e en' ok) :
  Rd en P w base spare held t (fun l:List α=>[.sl (l.map en')]) (fun l=>l.length<=maxLen/\∀a∈l,ok a):=fun fuel cs x hx=>by
 rcases DataW.trod_slice ht hx with⟨rfl,_⟩|⟨a,len,cap,elems,rest,n,_,rfl,_,_,hlc,hm,hlen,hel,_,_⟩
 ·exact⟨[],⟨Nat.zero_le _,fun a ha=>by cases ha⟩,.one (.sl (sz:=1) (fun _ _=> .nilIface) rfl (Nat.le_refl _) (by simp) (by simp) (by simp))⟩
 ·have each:∀i,i<len->∃b:α,ok b/\∃ci,w.cells? base (a.add (i*sz)) sz=some ci/\CellsRep w ci (en' b):=fun i hi=>by
   have h1:=hel i hi
   rw[hc]at h1
   have h2:elems[i]? = some elems[i]:=List.getElem?_eq_getElem (by omega)
   rw[h2,Option.bind_eq_some_iff]at h1
   obtain⟨ci,h3,h4⟩:=h1
   obtain⟨b,hb1,hb2⟩:=h n ci _ h4
   exact⟨b,hb1,ci,h3,hb2⟩
  obtain⟨l,l1,l2⟩:=list_of len each
  refine⟨l,⟨by omega,fun b hb=>?_⟩,.one ?_⟩
  ·obtain⟨i,hi⟩:=List.mem_iff_getElem?.1 hb
   exact(l2 i b hi).1
  ·have spot:0<len->a=⟨a.block,a.off,none⟩:=fun hp=>by
    obtain⟨b,_,ci,h3,h4⟩:=each 0 hp
    obtain⟨g1,g2⟩:=cells?_get h3
    have h5:=g2 0 h0
    have h6:ci[0]? = some (ci[0]'(by omega)):=List.getElem?_eq_getElem (by omega)
    rw[h6]at h5
    have e0:(a.add (0*sz)).add 0=a:=by simp[Addr.add]
    rw[e0]at h5
    have:=spot_none h5
    cases a; simp at this; subst this; rfl
   refine .sl (sz:=sz) (fun i j=>(w.cell? ⟨a.block,a.off+(i*sz+j),none⟩).getD undef) (by simp[l1]) hlc (fun x hx=>?_) (fun hp=>⟨a.block,a.off,congrArg some (spot hp),fun i j hi hj=>?_⟩) (fun i j x p hx hp=>?_)
   ·obtain⟨b,_,rfl⟩:=List.mem_map.1 hx
    exact hl b
   ·obtain⟨b,_,ci,h3,h4⟩:=each i hi
    obtain⟨g1,g2⟩:=cells?_get h3
    have h5:=g2 j hj
    have h6:ci[j]? = some (ci[j]'(by omega)):=List.getElem?_eq_getElem (by omega)
    rw[h6,spot (by omega),Addr.add_lit,Addr.add_lit,Nat.add_assoc]at h5
    show w.cell? _=_
    rw[h5]; rfl
   ·rw[List.getElem?_map]at hx
    cases hli:l[i]? with
    |none=>rw[hli]at hx; cases hx
    |some b=>
     rw[hli]at hx
     obtain rfl:=Option.some.inj hx
     obtain⟨_,ci,h3,h4⟩:=l2 i b hli
     have hi:i<len:=by rw[<-l1]; exact(List.getElem?_eq_some_iff.1 hli).1
     have hj:j<sz:=by rw[<-hl b]; exact(List.getElem?_eq_some_iff.1 hp).1
     obtain⟨g1,g2⟩:=cells?_get h3
     have h5:=g2 j hj
     have h6:ci[j]? = some (ci[j]'(by omega)):=List.getElem?_eq_getElem (by omega)
     rw[h6,spot (by omega),Addr.add_lit,Addr.add_lit,Nat.add_assoc]at h5
     rw[h5]
     exact h4.2 j _ p h6 hp
theorem Rd.bool {t:TypeId}(ht:P.underlying t=some .bool):Rd en P w base spare held t (fun b:Bool=>[vB b]) (fun _=>True):=fun fuel cs x h=>by
 obtain⟨b,rfl,_⟩:=DataW.trod_bool ht h
 exact⟨b,trivial,.one (.val rfl)⟩
theorem Rd.struct5 {t:TypeId}{fs:Array Field}{f0 f1 f2 f3 f4:Field}{α0 α1 α2 α3 α4:Type}{e0:α0->PV}{e1:α1->PV}{e2:α2->PV}{e3:α3->PV}{e4:α4->PV}{o0:α0->Prop}{o1:α1->Prop}{o2:α2->Prop}{o3:α3->Prop}{o4:α4->Prop}
  (ht:P.underlying t=some (.struct fs)) (hfs:fs = #[f0,f1,f2,f3,f4]) (hn:P.cellsOf t=5)
  (g0:f0.offset=0) (g1:f1.offset=1) (g2:f2.offset=2) (g3:f3.offset=3) (g4:f4.offset=4)
  (c0:P.cellsOf f0.type=1) (c1:P.cellsOf f1.type=1) (c2:P.cellsOf f2.type=1) (c3:P.cellsOf f3.type=1) (c4:P.cellsOf f4.type=1)
  (h0:Rd en P w base spare held f0.type (fun a=>[e0 a]) o0) (h1:Rd en P w base spare held f1.type (fun a=>[e1 a]) o1) (h2:Rd en P w base spare held f2.type (fun a=>[e2 a]) o2) (h3:Rd en P w base spare held f3.type (fun a=>[e3 a]) o3) (h4:Rd en P w base spare held f4.type (fun a=>[e4 a]) o4) :
  Rd en P w base spare held t (fun a:α0×α1×α2×α3×α4=>[e0 a.1,e1 a.2.1,e2 a.2.2.1,e3 a.2.2.2.1,e4 a.2.2.2.2]) (fun a=>o0 a.1/\o1 a.2.1/\o2 a.2.2.1/\o3 a.2.2.2.1/\o4 a.2.2.2.2):=fun fuel cs x hx=>by
 subst hfs
 obtain⟨xs,n,_,_,hl,hxl,hget⟩:=DataW.trod_struct ht hx
 rw[hn]at hl
 have hxl:xs.length=5:=hxl
 match cs,hl with
 | [v0,v1,v2,v3,v4],_=>
 match xs,hxl with
 | [x0,x1,x2,x3,x4],_=>
 have q0:=hget 0 f0 rfl
 have q1:=hget 1 f1 rfl
 have q2:=hget 2 f2 rfl
 have q3:=hget 3 f3 rfl
 have q4:=hget 4 f4 rfl
 rw[g0,c0]at q0
 rw[g1,c1]at q1
 rw[g2,c2]at q2
 rw[g3,c3]at q3
 rw[g4,c4]at q4
 obtain⟨a0,k0,r0⟩:=h0 n _ x0 q0
 obtain⟨a1,k1,r1⟩:=h1 n _ x1 q1
 obtain⟨a2,k2,r2⟩:=h2 n _ x2 q2
 obtain⟨a3,k3,r3⟩:=h3 n _ x3 q3
 obtain⟨a4,k4,r4⟩:=h4 n _ x4 q4
 refine⟨(a0,a1,a2,a3,a4),⟨k0,k1,k2,k3,k4⟩,rfl,fun i c p hc hp=>?_⟩
 match i with
 |0=>simp at hc hp; subst hc hp; exact r0.2 0 _ _ rfl rfl
 |1=>simp at hc hp; subst hc hp; exact r1.2 0 _ _ rfl rfl
 |2=>simp at hc hp; subst hc hp; exact r2.2 0 _ _ rfl rfl
 |3=>simp at hc hp; subst hc hp; exact r3.2 0 _ _ rfl rfl
 |4=>simp at hc hp; subst hc hp; exact r4.2 0 _ _ rfl rfl
 |i+5=>simp at hc
theorem CellsRep.arg {v:Value}{p:PV}(h1:v.oneCell'=true)(h:CellsRep w v.cells.toList [p]):RepA (memCells w) v p:=by
 have e:v.cells = #[v]:=by cases v<;>first|rfl|simp[Value.oneCell']at h1
 rw[e]at h
 exact .frz (h.2 0 v p rfl rfl)
end
end Go.Pw

end
