import Derived.Test.YtcgmpcbkndpmbaaGreatDoorGE12
import Derived.Test.YtcgmpcbkndpmbaaGreatDoorGE8
/-
 The tree of a list of nodes: a good value of at most 40 parts.
-/
open Go Go.Proofs Go.Pw Go.RowKit
namespace Go.Proofs.YtcgmpcbkndpmbaaGreatDoor
set_option maxRecDepth 4000
set_option linter.unusedVariables false
set_option linter.unusedSimpArgs false
attribute [local go_sem] Nat.le_refl Tryz.results9 cellsN
def TreeQ (r:PV):Prop:=∃v,TreeOk v/\r = .agg (cellsV v)
def NdsOk (l:List Nd):Prop:=∀x∈l,NdOk x
def madeV (n:Nat):List PV:=(List.range (n*6)).map fun i=>[PV.val (.int .i64 0),.val (.bool false),.val (.int .i64 0),.val (.string ByteArray.empty),.val (.slice none 0 0),.val (.slice none 0 0)].getD (i%6) (.val .nilIface)
theorem madeV_eq (n:Nat):madeV n=(List.replicate n [PV.val (.int .i64 0),.val (.bool false),.val (.int .i64 0),.val (.string ByteArray.empty),.val (.slice none 0 0),.val (.slice none 0 0)]).flatten:=by
 induction n with
 |zero=>rfl
 |succ n ih=>
  rw[List.replicate_succ',List.flatten_append,<-ih]
  unfold madeV
  rw[Nat.succ_mul,List.range_add,List.map_append]
  congr 1
  simp only[List.map_map]
  have h:∀j,j<6->(n*6+j)%6=j:=fun j hj=>by omega
  simp[List.range_succ,h,Function.comp]
theorem FrzL.app:∀{a a' b b':List PV},FrzL a a'->FrzL b b'->FrzL (a++b) (a'++b')
 | [],[],_,_,_,h=>h
 |_::_,_::_,_,_,h,k=>⟨h.1,FrzL.app h.2 k⟩
 | [],_::_,_,_,h,_=>h.elim
 |_::_,[],_,_,h,_=>h.elim
theorem madeV_frz (n:Nat):FrzL (madeV n) (flatV (List.replicate n vZero)):=by
 rw[madeV_eq]
 induction n with
 |zero=>exact trivial
 |succ n ih=>
  rw[List.replicate_succ,List.replicate_succ,List.flatten_cons,flatV_cons]
  refine FrzL.app ?_ ih
  exact⟨rfl,rfl,rfl,rfl,⟨rfl,encV_nil⟩,⟨rfl,encT_nil⟩,trivial⟩
theorem frz_made (n:Nat):FrzL ((List.range (n*6)).map fun i=>[PV.val (.int .i64 0),.val (.bool false),.val (.int .i64 0),.val (.string ByteArray.empty),.val (.slice none 0 0),.val (.slice none 0 0)].getD (i%6) (.val .nilIface)) (flatV (List.replicate n vZero))=True:=eq_true (madeV_frz n)
theorem vflat_get {l:List V}{i:Nat}(h:i<l.length):((flatV l).drop (i*6)).take 6=cellsV (l.getD i default):=by
 rw[flatV_drop,drop_consG (d:=default) h,flatV_cons,List.take_append_of_le_length (by simp)]
 rfl
theorem flat_get0 {l:List V}(h:0<l.length):(flatV l).take 6=cellsV (l.getD 0 default):=by
 have:=vflat_get h
 simpa using this
theorem opv_T {c:Prop} [Decidable c]{a b:Option PV}(h:c):(if c then a else b)=a:=if_pos h
theorem set_flat {l:List V}{i:Nat}(h:i<l.length)(v:V):(flatV l).take (i*6)++cellsV v++(flatV l).drop (i*6+6)=flatV (l.set i v):=by
 rw[flatV_take,show i*6+6=(i+1)*6 by omega,flatV_drop,List.set_eq_take_append_cons_drop,if_pos h,flatV_app,flatV_cons,List.append_assoc]
theorem tree_set {all:List V}{j:Nat}{cs:List PV}(v:V)(h:j<all.length)(hc:FrzL cs (cellsV v)):FrzL ((flatV all).take (j*6)++cs++(flatV all).drop (j*6+6)) (flatV (all.set j v))=True:=by
 rw[<-set_flat h v]
 exact eq_true (FrzL.app (FrzL.app (FrzL.refl _) hc) (FrzL.refl _))
theorem set_ok {all:List V}{j n:Nat}{v:V}(hv:TreeOk v)(h2:all.length=n)(h3:∀v∈all,TreeOk v):(all.set j v).length=n/\∀x∈all.set j v,TreeOk x:=
 ⟨by simp[h2],fun x hx=>by rcases List.mem_or_eq_of_mem_set hx with h|rfl; exact h3 x h; exact hv⟩
theorem leaf_ok {k:Int}{b:Bool}{n:Int}{s:ByteArray}(hk:0<=k/\k<=5)(hb:bareB k b n s 0 0=true)(hs:s.size<=60)(ht:isT s=true)(hn : -9223372036854775808<=n/\n<=9223372036854775807:=by decide):TreeOk (.mk k b n s [] []):=by
 refine⟨?_,?_,?_,by rw[fitV_eq]; simp[V.n_mk,V.items_mk,hn.1,hn.2]⟩
 ·rw[goodB_eq]
  simp only[V.kind_mk,V.b_mk,V.n_mk,V.s_mk,V.items_mk,V.keys_mk,List.length_nil,hb,ht,decide_eq_true hk]
  simp[keyedB,sortB,hk]
 ·rw[str60_eq]; simp[V.s_mk,V.keys_mk,V.items_mk,hs]
 ·rw[nV_eq]; simp only[V.items_mk,nVs_nil]; decide
theorem arr_ok {its:List V}(h:∀x∈its,TreeOk x)(hn:1+nVs its<=40):TreeOk (.mk 4 false 0 ByteArray.empty its []):=by
 have hft:its.all fitV=true:=List.all_eq_true.2 (fun x hx=>(h x hx).fit)
 refine⟨?_,?_,?_,by rw[fitV_eq]; simp only[V.n_mk,V.items_mk,hft]; rfl⟩
 ·rw[goodB_eq]
  simp only[V.kind_mk,V.b_mk,V.n_mk,V.s_mk,V.items_mk,V.keys_mk,isT_empty]
  have:its.all goodB=true:=List.all_eq_true.2 (fun x hx=>(h x hx).good)
  rw[this]
  simp[keyedB,sortB,bareB]
 ·rw[str60_eq]
  have:its.all str60=true:=List.all_eq_true.2 (fun x hx=>(h x hx).str)
  have h0:decide (ByteArray.empty.size<=60)=true:=by decide +kernel
  simp only[V.s_mk,V.keys_mk,V.items_mk,this,h0]
  rfl
 ·rw[nV_eq,V.items_mk]; exact hn
theorem obj_ok {its:List V}{ks:List ByteArray}(h:∀x∈its,TreeOk x)(hn:1+nVs its<=40)(hs:SortT ks)(hl:ks.length=its.length)(hk:∀k∈ks,k.size<=60/\isT k=true):TreeOk (.mk 5 false 0 ByteArray.empty its ks):=by
 have hft:its.all fitV=true:=List.all_eq_true.2 (fun x hx=>(h x hx).fit)
 refine⟨?_,?_,?_,by rw[fitV_eq]; simp only[V.n_mk,V.items_mk,hft]; rfl⟩
 ·rw[goodB_eq]
  simp only[V.kind_mk,V.b_mk,V.n_mk,V.s_mk,V.items_mk,V.keys_mk,isT_empty]
  have:its.all goodB=true:=List.all_eq_true.2 (fun x hx=>(h x hx).good)
  have h2:ks.all isT=true:=List.all_eq_true.2 (fun x hx=>(hk x hx).2)
  rw[this]
  simp[keyedB,bareB,h2,(sortB_iff ks).2 hs,hl]
 ·rw[str60_eq]
  have:its.all str60=true:=List.all_eq_true.2 (fun x hx=>(h x hx).str)
  have h2:(ks.all fun k=>decide (k.size<=60))=true:=List.all_eq_true.2 (fun x hx=>decide_eq_true (hk x hx).1)
  have h0:decide (ByteArray.empty.size<=60)=true:=by decide +kernel
  simp only[V.s_mk,V.keys_mk,V.items_mk,this,h2,h0]
  rfl
 ·rw[nV_eq,V.items_mk]; exact hn
theorem rowV_frz (t:Nat)(its:List V):Frz1 (rowV t its) (.sl (encV its)):=by
 cases its with
 |nil=>exact⟨rfl,encV_nil⟩
 |cons x r=>rfl
theorem fz_tree4 (t:Nat)(its:List V):fzAs [.agg [vI 4,vB false,vI 0,vS ByteArray.empty,rowV t its,vNil]]=some [.agg [vI 4,vB false,vI 0,vS ByteArray.empty,.sl (encV its),.sl []]]:=by
 cases its with
 |nil=>rw[encV_nil]; rfl
 |cons x r=>rfl
theorem nVs_ins (l:List V)(i:Nat)(y:V):nVs (insAt l i y)=nVs l+nV y:=by
 unfold insAt
 rw[nVs_app,nVs_app,nVs_cons,nVs_nil]
 have:=nVs_app (l.take i) (l.drop i)
 rw[List.take_append_drop]at this
 omega
theorem mem_ins {α:Type}{l:List α}{i:Nat}{y x:α}(h:x∈insAt l i y):x∈l∨x=y:=by
 unfold insAt at h
 rcases List.mem_append.1 h with h|h
 ·rcases List.mem_append.1 h with h|h
  ·exact .inl (List.mem_of_mem_take h)
  ·exact .inr (List.mem_singleton.1 h)
 ·exact .inl (List.mem_of_mem_drop h)
theorem put5_T {its:List V}{ks:List ByteArray}{key:ByteArray}(y:V)(hv:szV (.mk 5 false 0 ByteArray.empty its ks)<=1000000)(hk:ks.length<=its.length)(hf:foundT ks key=true) :
  Ok Tryz.prog 23 [.agg [vI 5,vB false,vI 0,vS ByteArray.empty,.sl (encV its),.sl (encT ks)],vS key,.agg (cellsV y)] (.tup [.agg [vI 5,vB false,vI 0,vS ByteArray.empty,.sl (encV its),.sl (encT ks)],vB false]):=by
 have h:=put_ok (.mk 5 false 0 ByteArray.empty its ks) key y hv hk
 rw[putF,if_pos (show foundT (V.mk 5 false 0 ByteArray.empty its ks).keys key=true from hf)]at h
 exact h
theorem put5_F {its:List V}{ks:List ByteArray}{key:ByteArray}(y:V)(hv:szV (.mk 5 false 0 ByteArray.empty its ks)<=1000000)(hk:ks.length<=its.length)(hf:foundT ks key=false) :
  Ok Tryz.prog 23 [.agg [vI 5,vB false,vI 0,vS ByteArray.empty,.sl (encV its),.sl (encT ks)],vS key,.agg (cellsV y)]
   (.tup [.agg [vI 5,vB false,vI 0,vS ByteArray.empty,.sl (encV (insAt its (posT ks key) y)),.sl (encT (insAt ks (posT ks key) key))],vB true]):=by
 have h:=put_ok (.mk 5 false 0 ByteArray.empty its ks) key y hv hk
 rw[putF,if_neg (show ¬foundT (V.mk 5 false 0 ByteArray.empty its ks).keys key=true by rw[show foundT (V.mk 5 false 0 ByteArray.empty its ks).keys key=false from hf]; decide)]at h
 exact h
theorem oneA_ok:(ByteArray.mk #[97]).size<=60/\isT ⟨#[97]⟩=true:=⟨by decide,by decide +kernel⟩
theorem zero_ok:TreeOk vZero:=by
 refine⟨?_,?_,?_,by decide +kernel⟩
 ·rw[goodB_eq]
  simp only[vZero,V.kind_mk,V.b_mk,V.n_mk,V.s_mk,V.items_mk,V.keys_mk,isT_empty]
  decide +kernel
 ·rw[str60_eq]; decide +kernel
 ·rw[nV_eq]; simp only[vZero,V.items_mk,nVs_nil]; decide
set_option maxHeartbeats 16000000 in
theorem tree_ok (l:List Nd)(hN:NdsOk l)(hl:l.length<=9223372036854775807):OkQ Tryz.prog 9 [.sl (encN l)] TreeQ:=by
 refine OkQ.of_pwp (bar:=noBar) (by kernel_rfl) Tryz.func9 rfl (by kernel_rfl) (by kernel_rfl) ?_
 by_cases h0:l.length=0
 ·simp -implicitDefEqProofs (disch:=omega) only[go_sem,simprocAttr,cellsV,outQ,fzHAs,fzHA,fzHL,fzH]
  exact⟨vZero,zero_ok,by simp only[cellsV,vZero,V.kind_mk,V.b_mk,V.n_mk,V.s_mk,V.items_mk,V.keys_mk,encV_nil,encT_nil]⟩
 obtain⟨n,hmn,hn0,hn12,hnl⟩:∃n:Nat,(if(12:Int)<(l.length:Int) then 12 else(l.length:Int))=(n:Int)/\0<n/\n<=12/\n<=l.length:=⟨min l.length 12,by split<;>omega,by omega,by omega,by omega⟩
 have hLn:(l.take n).length=n:=by rw[List.length_take]; omega
 have hLN:NdsOk (l.take n):=fun x hx=>hN x (List.mem_of_mem_take hx)
 simp -implicitDefEqProofs (disch:=omega) only[go_sem,simprocAttr,cellsV,encN_take,hmn]
 generalize l.take n=L at *
 simp -implicitDefEqProofs (disch:=omega) only[go_sem,simprocAttr,cellsV,hLn]
 refine p_loop (ι:={ p:Nat×List V // p.1<=n/\p.2.length=n/\∀v∈p.2,TreeOk v })
  (fun p=>⟨[(4,vI ((p.1.1:Int)-1)),(3,.ms 12 0 n n),(0,.sl (encN L)),(2,.ptr 0 0)],[(12,.box 28 (flatV p.1.2)),(0,.box 28 [vI 0,vB false,vI 0,vS ByteArray.empty,vNil,vNil])],[],17,0⟩) (fun p=>p.1.1)
  ⟨(n,List.replicate n vZero),Nat.le_refl _,by simp,fun v hv=>by rw[(List.mem_replicate.1 hv).2]; exact zero_ok⟩ ?_ ?_
 ·constructor<;>simp only[go_sem,simprocAttr,decide_eq_true_eq,frz_made,ltL_flatV]<;>try ((repeat' apply And.intro)<;>first|rfl|omega|(congr 3; omega)|(congr 2; omega))
 ·rintro⟨⟨m,all⟩,h1,h2,h3⟩
  simp only at h1 h2 h3 ⊢
  cases m with
  |zero=>
   have hall:=h3 _ (getD_mem (l:=all) (i:=0) (d:=default) (by omega))
   have e:(((0:Nat):Int)-1) = -1:=by omega
   rw[e]
   simp -implicitDefEqProofs (disch:=omega) only[go_sem,simprocAttr,cellsV,outQ,fzHAs,fzHA,fzHL,fzH,flatV_len,h2,flat_get0,Nat.zero_mul,opv_T]
   exact⟨_,hall,rfl⟩
  |succ j=>
   have e:(((j+1:Nat):Int)-1)=(j:Int):=by omega
   rw[e]
   have hj:j<L.length:=by omega
   have hx:=hLN _ (getD_mem (d:=default) hj)
   generalize hxe:L.getD j default=x at *
   have hq1:0<=x.kind.tmod 6/\x.kind.tmod 6<=5:=by have:=hx.kind; rw[Int.tmod_eq_emod_of_nonneg this.1]; omega
   simp -implicitDefEqProofs (disch:=omega) only[go_sem,simprocAttr,cellsV,hxe]
   generalize x.kind.tmod 6=q at *
   have hq:q=0∨q=1∨q=2∨q=3∨q=4∨q=5:=by omega
   rcases hq with rfl|rfl|rfl|rfl|rfl|rfl
   ·have hv:TreeOk (.mk 0 false 0 ByteArray.empty [] []):=zero_ok
    have hset:=tree_set (all:=all) (j:=j) (cs:=[PV.val (.int .i64 0),.val (.bool false),.val (.int .i64 0),.val (.string ByteArray.empty),.val (.slice none 0 0),.val (.slice none 0 0)]) (.mk 0 false 0 ByteArray.empty [] []) (by omega) ⟨rfl,rfl,rfl,rfl,⟨rfl,encV_nil⟩,⟨rfl,encT_nil⟩,trivial⟩
    simp -implicitDefEqProofs (disch:=omega) only[go_sem,simprocAttr,cellsV,flatV_len,h2]
    refine⟨⟨(j,all.set j _),by simp only; omega,set_ok hv h2 h3⟩,by simp only; omega,?_⟩
    constructor<;>simp only[go_sem,simprocAttr,decide_eq_true_eq,hset,ltL_flatV]<;>try ((repeat' apply And.intro)<;>first|rfl|omega|(congr 3; omega)|(congr 2; omega))
   ·have hv:TreeOk (.mk 1 (!decide (x.n.tmod 2=0)) 0 ByteArray.empty [] []):=leaf_ok (by decide) (by simp[bareB]) (by decide) isT_empty
    have hset:=tree_set (all:=all) (j:=j) (cs:=[PV.val (.int .i64 1),.val (.bool (!decide (x.n.tmod 2=0))),.val (.int .i64 0),.val (.string ByteArray.empty),.val (.slice none 0 0),.val (.slice none 0 0)]) (.mk 1 (!decide (x.n.tmod 2=0)) 0 ByteArray.empty [] []) (by omega) ⟨rfl,rfl,rfl,rfl,⟨rfl,encV_nil⟩,⟨rfl,encT_nil⟩,trivial⟩
    simp -implicitDefEqProofs (disch:=omega) only[go_sem,simprocAttr,cellsV,flatV_len,h2]
    refine⟨⟨(j,all.set j _),by simp only; omega,set_ok hv h2 h3⟩,by simp only; omega,?_⟩
    constructor<;>simp only[go_sem,simprocAttr,decide_eq_true_eq,hset,ltL_flatV]<;>try ((repeat' apply And.intro)<;>first|rfl|omega|(congr 3; omega)|(congr 2; omega))
   ·have hv:TreeOk (.mk 2 false x.n ByteArray.empty [] []):=leaf_ok (by decide) (by simp[bareB]) (by decide) isT_empty hx.num
    have hset:=tree_set (all:=all) (j:=j) (cs:=[PV.val (.int .i64 2),.val (.bool false),.val (.int .i64 x.n),.val (.string ByteArray.empty),.val (.slice none 0 0),.val (.slice none 0 0)]) (.mk 2 false x.n ByteArray.empty [] []) (by omega) ⟨rfl,rfl,rfl,rfl,⟨rfl,encV_nil⟩,⟨rfl,encT_nil⟩,trivial⟩
    simp -implicitDefEqProofs (disch:=omega) only[go_sem,simprocAttr,cellsV,flatV_len,h2]
    refine⟨⟨(j,all.set j _),by simp only; omega,set_ok hv h2 h3⟩,by simp only; omega,?_⟩
    constructor<;>simp only[go_sem,simprocAttr,decide_eq_true_eq,hset,ltL_flatV]<;>try ((repeat' apply And.intro)<;>first|rfl|omega|(congr 3; omega)|(congr 2; omega))
   ·have ht:=textL_ok x.s
    have hv:TreeOk (.mk 3 false 0 (textL x.s) [] []):=leaf_ok (by decide) (by simp[bareB]) ht.1 ht.2
    have hset:=tree_set (all:=all) (j:=j) (cs:=[PV.val (.int .i64 3),.val (.bool false),.val (.int .i64 0),.val (.string (textL x.s)),.val (.slice none 0 0),.val (.slice none 0 0)]) (.mk 3 false 0 (textL x.s) [] []) (by omega) ⟨rfl,rfl,rfl,rfl,⟨rfl,encV_nil⟩,⟨rfl,encT_nil⟩,trivial⟩
    simp -implicitDefEqProofs (disch:=omega) only[go_sem,simprocAttr,cellsV,flatV_len,h2]
    with_reducible refine CallOk.of (ltext_ok x.s) rfl ?_
    simp -implicitDefEqProofs (disch:=omega) only[go_sem,simprocAttr,cellsV,flatV_len,h2]
    refine⟨⟨(j,all.set j _),by simp only; omega,set_ok hv h2 h3⟩,by simp only; omega,?_⟩
    constructor<;>simp only[go_sem,simprocAttr,decide_eq_true_eq,hset,ltL_flatV]<;>try ((repeat' apply And.intro)<;>first|rfl|omega|(congr 3; omega)|(congr 2; omega))
   ·simp -implicitDefEqProofs (disch:=omega) only[go_sem,simprocAttr,cellsV,flatV_len,h2]
    refine p_loop (ι:={ p:Nat×Nat×List V // p.1<=x.items.length/\p.2.2.length=p.1/\(∀v∈p.2.2,TreeOk v)/\1+nVs p.2.2<=40 })
     (fun p=>⟨[(65,vI p.1.1),(64,vI x.items.length),(63,.sl (encC x.items)),(6,.ptr 30 0),(5,.ptr 23 0),(4,vI j),(3,.ms 12 0 n n),(0,.sl (encN L)),(2,.ptr 0 0)],
      [(30,.box 28 [vI 4,vB false,vI 0,vS ByteArray.empty,rowV p.1.2.1 p.1.2.2,vNil]),(23,.box 54 (cellsN x)),(12,.box 28 (flatV all)),(0,.box 28 [vI 0,vB false,vI 0,vS ByteArray.empty,vNil,vNil])],tokV p.1.2.1 28 p.1.2.2,31,p.1.2.1+1⟩) (fun p=>x.items.length-p.1.1)
     ⟨(0,0,[]),Nat.zero_le _,rfl,fun v h=>(by cases h),(by rw[nVs_nil]; decide)⟩ ?_ ?_
    ·simp only[rowV,tokV]
     constructor<;>simp only[go_sem,simprocAttr,decide_eq_true_eq,Int.natCast_zero,ltL_flatV]<;>try ((repeat' apply And.intro)<;>first|rfl|omega|(congr 3; omega)|(congr 2; omega))
    ·rintro⟨⟨k,t,its⟩,g1,g2,g3,g4⟩
     simp only at g1 g2 g3 g4 ⊢
     have hv:=arr_ok g3 g4
     have hset:=tree_set (all:=all) (j:=j) (cs:=[vI 4,vB false,vI 0,vS ByteArray.empty,rowV t its,vNil]) (.mk 4 false 0 ByteArray.empty its []) (by omega) ⟨rfl,rfl,rfl,rfl,rowV_frz t its,⟨rfl,encT_nil⟩,trivial⟩
     by_cases hk:k<x.items.length
     rotate_left
     ·simp -implicitDefEqProofs (disch:=omega) only[go_sem,simprocAttr,cellsV,flatV_len,h2]
      refine⟨⟨(j,all.set j _),by simp only; omega,set_ok hv h2 h3⟩,by simp only; omega,?_⟩
      constructor<;>simp only[go_sem,simprocAttr,decide_eq_true_eq,hset,ltL_flatV]<;>try ((repeat' apply And.intro)<;>first|rfl|omega|(congr 3; omega)|(congr 2; omega))
     have hd:=hx.items _ (getD_mem (d:=0) hk)
     generalize hde:x.items.getD k 0=d at *
     have hdm:0<=d.tmod 4/\d.tmod 4<=3:=by rw[Int.tmod_eq_emod_of_nonneg hd.1]; omega
     by_cases hk4:k=4
     ·simp -implicitDefEqProofs (disch:=omega) only[go_sem,simprocAttr,cellsV,flatV_len,h2,hde]
      refine⟨⟨(j,all.set j _),by simp only; omega,set_ok hv h2 h3⟩,by simp only; omega,?_⟩
      constructor<;>simp only[go_sem,simprocAttr,decide_eq_true_eq,hset,ltL_flatV]<;>try ((repeat' apply And.intro)<;>first|rfl|omega|(congr 3; omega)|(congr 2; omega))
     obtain⟨m,hm⟩:∃m:Nat,(j:Int)+1+d.tmod 4=(m:Int):=⟨((j:Int)+1+d.tmod 4).toNat,by omega⟩
     by_cases hat:n<=m
     ·simp -implicitDefEqProofs (disch:=omega) only[go_sem,simprocAttr,cellsV,flatV_len,h2,hde,hm]
      refine⟨⟨(j,all.set j _),by simp only; omega,set_ok hv h2 h3⟩,by simp only; omega,?_⟩
      constructor<;>simp only[go_sem,simprocAttr,decide_eq_true_eq,hset,ltL_flatV]<;>try ((repeat' apply And.intro)<;>first|rfl|omega|(congr 3; omega)|(congr 2; omega))
     have hmo:=h3 _ (getD_mem (l:=all) (i:=m) (d:=default) (by omega))
     have cm:=rsize_ok (all.getD m default) (by have:=hmo.sz; omega)
     have cv:=rsize_ok (.mk 4 false 0 ByteArray.empty its []) (by have:=hv.sz; omega)
     simp only[cellsV,V.kind_mk,V.b_mk,V.n_mk,V.s_mk,V.items_mk,V.keys_mk,encT_nil]at cv
     have em:=hmo.size
     have ev:=nV_eq (.mk 4 false 0 ByteArray.empty its [])
     rw[V.items_mk]at ev
     generalize hy:all.getD m default=y at *
     have en:nV (.mk 4 false 0 ByteArray.empty its [])<=40:=hv.size
     generalize nV (.mk 4 false 0 ByteArray.empty its [])=nv at *
     simp -implicitDefEqProofs (disch:=omega) only[go_sem,simprocAttr,cellsV,flatV_len,h2,hde,hm,vflat_get,opv_T,hy]
     refine CallOk.of cv (fz_tree4 t its) ?_
     simp -implicitDefEqProofs (disch:=omega) only[go_sem,simprocAttr,cellsV,flatV_len,h2,hde,hm,vflat_get,opv_T,hy]
     with_reducible refine CallOk.of cm rfl ?_
     by_cases hs:40<nv+nV y
     ·simp -implicitDefEqProofs (disch:=omega) only[go_sem,simprocAttr,cellsV,flatV_len,h2,hde,hm,vflat_get,opv_T,hy]
      refine⟨⟨(j,all.set j _),by simp only; omega,set_ok hv h2 h3⟩,by simp only; omega,?_⟩
      constructor<;>simp only[go_sem,simprocAttr,decide_eq_true_eq,hset,ltL_flatV]<;>try ((repeat' apply And.intro)<;>first|rfl|omega|(congr 3; omega)|(congr 2; omega))
     have hnew:nVs (its++[y])=nVs its+nV y:=by rw[nVs_app,nVs_cons,nVs_nil,Nat.add_zero]
     have hnV:1+nVs (its++[y])<=40:=by omega
     have hall:∀v∈its++[y],TreeOk v:=fun v hv'=>by
      rcases List.mem_append.1 hv' with h|h
      ·exact g3 v h
      ·rw[List.mem_singleton.1 h]; exact hmo
     have hil:=nVs_pos its
     cases its with
     |nil=>
      simp only[rowV,tokV]
      simp -implicitDefEqProofs (disch:=omega) only[go_sem,simprocAttr,cellsV,flatV_len,h2,hde,hm,vflat_get,opv_T,hy]
      refine⟨⟨(k+1,t+1+1+5+7+19+3+7,[y]),hk,by simp only[List.length_nil]at g2; simp only[List.length_singleton]; omega,hall,hnV⟩,by simp only; omega,?_⟩
      simp only[rowV,tokV]
      constructor<;>simp only[go_sem,simprocAttr,decide_eq_true_eq,Int.natCast_add,Int.natCast_one,List.length_singleton,List.length_nil,Nat.zero_add,ite_self,encV_cons,encV_nil,cellsV,ltL_flatV]<;>try ((repeat' apply And.intro)<;>first|rfl|omega|(congr 3; omega)|(congr 2; omega))
     |cons z r=>
      simp only[List.length_cons]at hil g2
      simp only[rowV,tokV]
      simp -implicitDefEqProofs (disch:=omega) only[go_sem,simprocAttr,cellsV,flatV_len,h2,hde,hm,vflat_get,opv_T,hy]
      refine⟨⟨(k+1,t,z::(r++[y])),hk,by simp only[List.length_cons,List.length_append,List.length_nil]; omega,hall,hnV⟩,by simp only; omega,?_⟩
      simp only[rowV,tokV]
      constructor<;>simp only[go_sem,simprocAttr,decide_eq_true_eq,Int.natCast_add,Int.natCast_one,List.length_cons,List.length_append,List.length_singleton,List.length_nil,Nat.zero_add,ite_self,encV_cons,encV_snoc',encV_nil,List.cons_append,cellsV,ltL_flatV]<;>try ((repeat' apply And.intro)<;>first|rfl|omega|(congr 3; omega)|(congr 2; omega))
   ·simp -implicitDefEqProofs (disch:=omega) only[go_sem,simprocAttr,cellsV,flatV_len,h2]
    refine p_loop (ι:={ p:Nat×List V×List ByteArray // p.1<=x.items.length/\p.2.1.length<=p.1/\(∀v∈p.2.1,TreeOk v)/\1+nVs p.2.1<=40/\SortT p.2.2/\p.2.2.length=p.2.1.length/\∀s∈p.2.2,s.size<=60/\isT s=true })
     (fun p=>⟨[(65,vI p.1.1),(64,vI x.items.length),(63,.sl (encC x.items)),(6,.ptr 30 0),(5,.ptr 23 0),(4,vI j),(3,.ms 12 0 n n),(0,.sl (encN L)),(2,.ptr 0 0)],
      [(30,.box 28 [vI 5,vB false,vI 0,vS ByteArray.empty,.sl (encV p.1.2.1),.sl (encT p.1.2.2)]),(23,.box 54 (cellsN x)),(12,.box 28 (flatV all)),(0,.box 28 [vI 0,vB false,vI 0,vS ByteArray.empty,vNil,vNil])],[],31,0⟩) (fun p=>x.items.length-p.1.1)
     ⟨(0,[],[]),Nat.zero_le _,Nat.le_refl _,fun v h=>(by cases h),(by rw[nVs_nil]; decide),List.Pairwise.nil,rfl,fun s h=>(by cases h)⟩ ?_ ?_
    ·constructor<;>simp only[go_sem,simprocAttr,decide_eq_true_eq,Int.natCast_zero,ltL_flatV,encV_nil,encT_nil]<;>try ((repeat' apply And.intro)<;>first|rfl|omega|(congr 3; omega)|(congr 2; omega))
    ·rintro⟨⟨k,its,ks⟩,g1,g2,g3,g4,g5,g6,g7⟩
     simp only at g1 g2 g3 g4 g5 g6 g7 ⊢
     have hv:=obj_ok g3 g4 g5 g6 g7
     have hil:=hx.il
     have hset:=tree_set (all:=all) (j:=j) (cs:=[vI 5,vB false,vI 0,vS ByteArray.empty,.sl (encV its),.sl (encT ks)]) (.mk 5 false 0 ByteArray.empty its ks) (by omega) ⟨rfl,rfl,rfl,rfl,rfl,rfl,trivial⟩
     by_cases hk:k<x.items.length
     rotate_left
     ·simp -implicitDefEqProofs (disch:=omega) only[go_sem,simprocAttr,cellsV,flatV_len,h2]
      refine⟨⟨(j,all.set j _),by simp only; omega,set_ok hv h2 h3⟩,by simp only; omega,?_⟩
      constructor<;>simp only[go_sem,simprocAttr,decide_eq_true_eq,hset,ltL_flatV]<;>try ((repeat' apply And.intro)<;>first|rfl|omega|(congr 3; omega)|(congr 2; omega))
     have hd:=hx.items _ (getD_mem (d:=0) hk)
     generalize hde:x.items.getD k 0=d at *
     have hdm:0<=d.tmod 4/\d.tmod 4<=3:=by rw[Int.tmod_eq_emod_of_nonneg hd.1]; omega
     by_cases hk4:k=4
     ·simp -implicitDefEqProofs (disch:=omega) only[go_sem,simprocAttr,cellsV,flatV_len,h2,hde]
      refine⟨⟨(j,all.set j _),by simp only; omega,set_ok hv h2 h3⟩,by simp only; omega,?_⟩
      constructor<;>simp only[go_sem,simprocAttr,decide_eq_true_eq,hset,ltL_flatV]<;>try ((repeat' apply And.intro)<;>first|rfl|omega|(congr 3; omega)|(congr 2; omega))
     obtain⟨m,hm⟩:∃m:Nat,(j:Int)+1+d.tmod 4=(m:Int):=⟨((j:Int)+1+d.tmod 4).toNat,by omega⟩
     by_cases hat:n<=m
     ·simp -implicitDefEqProofs (disch:=omega) only[go_sem,simprocAttr,cellsV,flatV_len,h2,hde,hm]
      refine⟨⟨(j,all.set j _),by simp only; omega,set_ok hv h2 h3⟩,by simp only; omega,?_⟩
      constructor<;>simp only[go_sem,simprocAttr,decide_eq_true_eq,hset,ltL_flatV]<;>try ((repeat' apply And.intro)<;>first|rfl|omega|(congr 3; omega)|(congr 2; omega))
     have hmo:=h3 _ (getD_mem (l:=all) (i:=m) (d:=default) (by omega))
     have cm:=rsize_ok (all.getD m default) (by have:=hmo.sz; omega)
     have cv:=rsize_ok (.mk 5 false 0 ByteArray.empty its ks) (by have:=hv.sz; omega)
     simp only[cellsV,V.kind_mk,V.b_mk,V.n_mk,V.s_mk,V.items_mk,V.keys_mk]at cv
     have em:=hmo.size
     have ev:=nV_eq (.mk 5 false 0 ByteArray.empty its ks)
     rw[V.items_mk]at ev
     generalize hy:all.getD m default=y at *
     have en:nV (.mk 5 false 0 ByteArray.empty its ks)<=40:=hv.size
     generalize nV (.mk 5 false 0 ByteArray.empty its ks)=nv at *
     simp -implicitDefEqProofs (disch:=omega) only[go_sem,simprocAttr,cellsV,flatV_len,h2,hde,hm,vflat_get,opv_T,hy]
     with_reducible refine CallOk.of cv rfl ?_
     simp -implicitDefEqProofs (disch:=omega) only[go_sem,simprocAttr,cellsV,flatV_len,h2,hde,hm,vflat_get,opv_T,hy]
     with_reducible refine CallOk.of cm rfl ?_
     by_cases hs:40<nv+nV y
     ·simp -implicitDefEqProofs (disch:=omega) only[go_sem,simprocAttr,cellsV,flatV_len,h2,hde,hm,vflat_get,opv_T,hy]
      refine⟨⟨(j,all.set j _),by simp only; omega,set_ok hv h2 h3⟩,by simp only; omega,?_⟩
      constructor<;>simp only[go_sem,simprocAttr,decide_eq_true_eq,hset,ltL_flatV]<;>try ((repeat' apply And.intro)<;>first|rfl|omega|(congr 3; omega)|(congr 2; omega))
     by_cases hkk:k<x.keys.length
     ·simp -implicitDefEqProofs (disch:=omega) only[go_sem,simprocAttr,cellsV,flatV_len,h2,hde,hm,vflat_get,opv_T,hy]
      with_reducible refine CallOk.of (ltext_ok (x.keys.getD k ByteArray.empty)) rfl ?_
      have hky:=textL_ok (x.keys.getD k ByteArray.empty)
      have hsv:szV (.mk 5 false 0 ByteArray.empty its ks)<=1000000:=by have:=hv.sz; omega
      generalize (textL (x.keys.getD k ByteArray.empty))=key at *
      have hple:=posT_le ks key
      cases hf:foundT ks key with
      |true=>
       have cp:=put5_T y hsv (by omega) hf
       simp -implicitDefEqProofs (disch:=omega) only[go_sem,simprocAttr,cellsV,flatV_len,h2,hde,hm,vflat_get,opv_T,hy]
       with_reducible refine CallOk.of cp rfl ?_
       simp -implicitDefEqProofs (disch:=omega) only[go_sem,simprocAttr,cellsV,flatV_len,h2,hde,hm,vflat_get,opv_T,hy]
       refine⟨⟨(k+1,its,ks),hk,by simp only; omega,g3,g4,g5,g6,g7⟩,by simp only; omega,?_⟩
       constructor<;>simp only[go_sem,simprocAttr,decide_eq_true_eq,Int.natCast_add,Int.natCast_one,ltL_flatV]<;>try ((repeat' apply And.intro)<;>first|rfl|omega|(congr 3; omega)|(congr 2; omega))
      |false=>
       have cp:=put5_F y hsv (by omega) hf
       simp -implicitDefEqProofs (disch:=omega) only[go_sem,simprocAttr,cellsV,flatV_len,h2,hde,hm,vflat_get,opv_T,hy]
       with_reducible refine CallOk.of cp rfl ?_
       simp -implicitDefEqProofs (disch:=omega) only[go_sem,simprocAttr,cellsV,flatV_len,h2,hde,hm,vflat_get,opv_T,hy]
       refine⟨⟨(k+1,insAt its (posT ks key) y,insAt ks (posT ks key) key),hk,?_,?_,?_,?_,?_,?_⟩,by simp only; omega,?_⟩
       ·simp only; rw[insAt_len (by omega)]; omega
       ·intro v hv'
        rcases mem_ins hv' with h|rfl
        ·exact g3 v h
        ·exact hmo
       ·simp only; rw[nVs_ins]; omega
       ·exact ins_sort g5 hf
       ·simp only; rw[insAt_len (by omega),insAt_len (by omega)]; omega
       ·intro s hs'
        rcases mem_ins hs' with h|rfl
        ·exact g7 s h
        ·exact hky
       ·constructor<;>simp only[go_sem,simprocAttr,decide_eq_true_eq,Int.natCast_add,Int.natCast_one,ltL_flatV]<;>try ((repeat' apply And.intro)<;>first|rfl|omega|(congr 3; omega)|(congr 2; omega))
     ·have hky:=oneA_ok
      have hsv:szV (.mk 5 false 0 ByteArray.empty its ks)<=1000000:=by have:=hv.sz; omega
      obtain⟨key,hkey⟩:∃key:ByteArray,(⟨#[97]⟩:ByteArray)=key:=⟨_,rfl⟩
      rw[hkey]at hky
      have hple:=posT_le ks key
      cases hf:foundT ks key with
      |true=>
       have cp:=put5_T y hsv (by omega) hf
       simp -implicitDefEqProofs (disch:=omega) only[go_sem,simprocAttr,cellsV,flatV_len,h2,hde,hm,vflat_get,opv_T,hy,hkey]
       with_reducible refine CallOk.of cp rfl ?_
       simp -implicitDefEqProofs (disch:=omega) only[go_sem,simprocAttr,cellsV,flatV_len,h2,hde,hm,vflat_get,opv_T,hy,hkey]
       refine⟨⟨(k+1,its,ks),hk,by simp only; omega,g3,g4,g5,g6,g7⟩,by simp only; omega,?_⟩
       constructor<;>simp only[go_sem,simprocAttr,decide_eq_true_eq,Int.natCast_add,Int.natCast_one,ltL_flatV]<;>try ((repeat' apply And.intro)<;>first|rfl|omega|(congr 3; omega)|(congr 2; omega))
      |false=>
       have cp:=put5_F y hsv (by omega) hf
       simp -implicitDefEqProofs (disch:=omega) only[go_sem,simprocAttr,cellsV,flatV_len,h2,hde,hm,vflat_get,opv_T,hy,hkey]
       with_reducible refine CallOk.of cp rfl ?_
       simp -implicitDefEqProofs (disch:=omega) only[go_sem,simprocAttr,cellsV,flatV_len,h2,hde,hm,vflat_get,opv_T,hy,hkey]
       refine⟨⟨(k+1,insAt its (posT ks key) y,insAt ks (posT ks key) key),hk,?_,?_,?_,?_,?_,?_⟩,by simp only; omega,?_⟩
       ·simp only; rw[insAt_len (by omega)]; omega
       ·intro v hv'
        rcases mem_ins hv' with h|rfl
        ·exact g3 v h
        ·exact hmo
       ·simp only; rw[nVs_ins]; omega
       ·exact ins_sort g5 hf
       ·simp only; rw[insAt_len (by omega),insAt_len (by omega)]; omega
       ·intro s hs'
        rcases mem_ins hs' with h|rfl
        ·exact g7 s h
        ·exact hky
       ·constructor<;>simp only[go_sem,simprocAttr,decide_eq_true_eq,Int.natCast_add,Int.natCast_one,ltL_flatV]<;>try ((repeat' apply And.intro)<;>first|rfl|omega|(congr 3; omega)|(congr 2; omega))
end Go.Proofs.YtcgmpcbkndpmbaaGreatDoor
