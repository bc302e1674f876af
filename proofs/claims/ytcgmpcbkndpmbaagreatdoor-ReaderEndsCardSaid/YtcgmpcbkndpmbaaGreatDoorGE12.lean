/-
  Contracts and plain laws on the way to the statement; each says its own conditions.
-/
import Derived.Test.YtcgmpcbkndpmbaaGreatDoorGE10
import Derived.Test.YtcgmpcbkndpmbaaGreatDoorGE7
import Derived.Test.YtcgmpcbkndpmbaaGreatDoorGE8
import Derived.Test.YtcgmpcbkndpmbaaGreatDoorGE3
section
open Go Go.Proofs Go.Pw Go.RowKit
namespace Go.Proofs.YtcgmpcbkndpmbaaGreatDoor
set_option maxRecDepth 4000
set_option linter.unusedVariables false
set_option linter.unusedSimpArgs false
attribute [local go_sem] Nat.le_refl Tk.cells Tryz.results17 encI_len szw1 szw2 szw3
theorem ext1 {s:ByteArray}{i:Nat}(h:i<s.size):s.extract i (i+1)=⟨#[s.data.toList.getD i 0]⟩:=by
 apply ByteArray.ext
 apply Array.ext'
 rw[ByteArray.data_extract,Array.toList_extract,List.extract_eq_take_drop]
 have hl:i<s.data.toList.length:=by rw[Array.length_toList]; exact h
 rw[Nat.add_sub_cancel_left,List.drop_eq_getElem_cons hl,List.take_succ_cons,List.take_zero,List.getD_eq_getElem?_getD,List.getElem?_eq_getElem hl]
 rfl
theorem isB_ext {s w:ByteArray}{k j:Nat}(h:k<w.size):hasF s (w.extract k (k+1)) j=isB s j (bt w k):=by
 rw[ext1 h,<-isB_hasF]
 rfl
theorem mk_at (s:ByteArray)(b j:Nat)(hb:b<s.size)(hj:j<6)(h:bt s b=bt mkS j):hasF s mkS b=true/\mkS.extract j (j+1)=s.extract b (b+1):=by
 have hx:s.data.toList.getD b 0=mkS.data.toList.getD j 0:=by
  unfold bt at h
  simp only[Int.toNat_natCast]at h
  exact UInt8.toNat_inj.1 (Int.ofNat_inj.1 h)
 refine⟨?_,?_⟩
 ·show hasF s ⟨[123,125,91,93,58,44].toArray⟩ b=true
  rw[hasF_mem,decide_eq_true hb,Bool.true_and,hx]
  have:j=0∨j=1∨j=2∨j=3∨j=4∨j=5:=by omega
  rcases this with rfl|rfl|rfl|rfl|rfl|rfl<;>decide +kernel
 ·rw[ext1 hb,ext1 (s:=mkS) (i:=j) hj,hx]
theorem mk_no (s:ByteArray)(b:Nat)(hb:b<s.size)(h:∀k:Nat,k<6->¬bt s b=bt mkS k):hasF s mkS b=false:=by
 cases hh:hasF s mkS b with
 |false=>rfl
 |true=>
  exfalso
  have f:∀c:Fin 256,([123,125,91,93,58,44]:List UInt8).contains c.1.toUInt8=true->∃k:Fin 6,(c.1:Int)=bt mkS k.1:=by decide +kernel
  have hh:hasF s ⟨[123,125,91,93,58,44].toArray⟩ b=true:=hh
  rw[hasF_mem,decide_eq_true hb,Bool.true_and]at hh
  have e:(s.data.toList.getD b 0).toNat.toUInt8=s.data.toList.getD b 0:=UInt8.ofNat_toNat
  obtain⟨k,hk⟩:=f ⟨(s.data.toList.getD b 0).toNat,UInt8.toNat_lt _⟩ (by simp only[e]; exact hh)
  exact h k.1 k.2 hk
theorem hasF_nu (s:ByteArray)(i:Nat):hasF s nuS i=(isB s i 45||hasF s dgS i):=by
 have h:=hasF_cons s 45 [48,49,50,51,52,53,54,55,56,57] i
 exact h
theorem numF_r (s:ByteArray)(i:Nat):numF s i=if(rnumF s i).2.2=false then(1,0,(rnumF s i).1) else if(rnumF s i).2.1=false then(4,0,i) else if pC (s.extract i (rnumF s i).1)=0 then(0,pV (s.extract i (rnumF s i).1),(rnumF s i).1) else(4,0,i):=by
 unfold numF rnumF
 generalize numI s (oneP s mnS i)=b
 unfold numY rnumI
 by_cases h1:b.1=true
 ·rw[if_pos h1,if_pos h1]
  unfold numX rnumD
  generalize numD s b.2=c
  by_cases h2:c.1=true
  ·rw[if_pos h2,if_pos h2]
   unfold rnumE
   by_cases h3:(numE s c.2).1=true
   ·rw[if_pos h3,if_pos h3]
    unfold numT
    simp only
    generalize (numE s c.2).2=q
    rw[if_neg (show ¬(true=false) by decide)]
    by_cases h4:q=b.2
    ·subst h4
     rw[decide_eq_true rfl,if_neg (show ¬(true=false) by decide)]
     by_cases h5:pC (s.extract i b.2)=0
     ·rw[if_pos ⟨h5,rfl⟩,if_pos h5]
     ·rw[if_neg (fun h=>h5 h.1),if_neg h5]
    ·rw[if_neg (fun h=>h4 h.2.symm),decide_eq_false h4,if_pos rfl]
   ·rw[if_neg h3,if_neg h3,if_pos rfl]
  ·rw[if_neg h2,if_neg h2,if_pos rfl]
 ·rw[if_neg h1,if_neg h1,if_pos rfl]
theorem pV_fits' (s:ByteArray):fits (pV s):=by
 unfold pV
 split
 ·rename_i h
  unfold pC at h
  split at h
  ·split at h
   ·assumption
   ·exact absurd h (by decide)
  ·exact absurd h (by decide)
 ·unfold fits; decide
theorem rnumF_le (s:ByteArray)(i:Nat)(hi:i<=s.size)(h:(rnumF s i).2.2=true)(h2:(rnumF s i).2.1=true):i<=(rnumF s i).1/\(rnumF s i).1<=s.size:=by
 have ha:=oneP_le (s:=s) (some:=mnS) hi
 unfold rnumF at h h2 ⊢
 generalize oneP s mnS i=a at *
 have hI:a<=(numI s a).2/\(numI s a).2<=s.size:=by
  unfold numI
  split
  ·rename_i h; have:=hasF_lt h; simp only; omega
  ·have:=passF_le s dgS a ha.2; simp only; omega
 unfold rnumI at h h2 ⊢
 split
 ·rename_i h1
  rw[if_pos h1]at h h2
  generalize (numI s a).2=b at *
  unfold rnumD at h h2 ⊢
  split
  ·rename_i h3
   rw[if_pos h3]at h h2
   unfold rnumE at h h2 ⊢
   split
   ·rename_i h4
    rw[if_pos h4]at h2
    simp only[decide_eq_true_eq]at h2 ⊢
    omega
   ·rename_i h4; rw[if_neg h4]at h; cases h
  ·rename_i h3; rw[if_neg h3]at h; cases h
 ·rename_i h1; rw[if_neg h1]at h; cases h
theorem szmk:(((#[123,125,91,93,58,44]:Array UInt8).size:Nat):Int)=6:=rfl
theorem b10:bt wd1 0=116:=rfl
theorem b20:bt wd2 0=102:=rfl
theorem b30:bt wd3 0=110:=rfl
theorem ptsF_len (s:ByteArray):∀f i out,(ptsF s f i out).2.1.length<=out.length+f
 |0,i,out=>by simp[ptsF]
 |f+1,i,out=>by
  rw[ptsF]
  have h1:=ptsF_len s f (escP s i).2.2 (out++[(escP s i).1])
  have h2:=ptsF_len s f (i+(goodN (Utf8.decode s i)).2.toNat) (out++[(goodN (Utf8.decode s i)).1])
  rw[List.length_append,List.length_singleton]at h1 h2
  repeat' split
  all_goals first|omega|(simp only; omega)
theorem ptsT_len (s:ByteArray)(i:Nat):(ptsT s i).2.1.length<=s.size:=by
 have:=ptsF_len s (s.size-i) (i+1) []
 unfold ptsT
 rw[List.length_nil]at this
 omega
def NextR (X:Int×Nat×Tk×Nat):PV:= .tup [.agg X.2.2.1.cells,vI X.2.1,vI X.1]
abbrev Z5:List PV:=[vI 0,vS ByteArray.empty,vI 0,vI 0,vI 0]
set_option maxHeartbeats 32000000 in
theorem rnext_ok (s:ByteArray)(i:Nat)(hi:i<=s.size)(hs:s.size<=100000)(hn:s.size<=i+8000):Ok Tryz.prog 17 [vS s,vI i] (NextR (nextF s i)):=by
 refine Ok.of_pwp (by kernel_rfl) Tryz.func17 rfl (by kernel_rfl) (by kernel_rfl) ?_
 generalize hX:nextF s i=X
 have cb:=rblanks_ok s i (by omega)
 have hb:=passF_le s blS i hi
 unfold nextF at hX
 simp -implicitDefEqProofs (disch:=omega) only[go_sem,simprocAttr,szmk,b10,b20,b30]
 with_reducible refine CallOk.of cb rfl ?_
 generalize passF s blS i=b at *
 by_cases h1:b=s.size
 ·rw[if_pos h1]at hX
  subst hX
  simp -implicitDefEqProofs (disch:=omega) only[go_sem,simprocAttr,szmk,b10,b20,b30,decide_eq_true (show(s.size:Int)<=b by omega)]
  rfl
 rw[if_neg h1]at hX
 have hlt:b<s.size:=by omega
 simp -implicitDefEqProofs (disch:=omega) only[go_sem,simprocAttr,szmk,b10,b20,b30]
 refine p_loop (ι:={ j:Nat // j<=6/\∀k,k<j->¬bt s b=bt mkS k }) (fun p=>⟨[(8,vI p.1),(7,vS mkS),(0,vS s),(1,vI b),(4,.ptr 0 0),(5,vI 0),(6,vI 0)],[(0,.box 46 Z5)],[],1,0⟩) (fun p=>6-p.1) ⟨0,by omega,fun k h=>by omega⟩ ?_ ?_
 ·constructor<;>simp only[go_sem,simprocAttr,decide_eq_true_eq,Int.natCast_zero]<;>try ((repeat' apply And.intro)<;>first|rfl|omega|(congr 3; omega)|(congr 2; omega))
 ·rintro⟨j,g1,g2⟩
  simp only at g1 g2 ⊢
  by_cases hj:j<6
  ·by_cases h2:bt s b=bt mkS j
   ·obtain⟨m1,m2⟩:=mk_at s b j hlt hj h2
    rw[if_pos m1]at hX
    rw[nextE,if_pos rfl]at hX
    subst hX
    have hjx:((j:Int)+1).toNat=j+1:=by omega
    simp -implicitDefEqProofs (disch:=omega) only[go_sem,simprocAttr,szmk,b10,b20,b30,decide_eq_true h2,hjx,m2]
    rfl
   ·simp -implicitDefEqProofs (disch:=omega) only[go_sem,simprocAttr,szmk,b10,b20,b30,decide_eq_false h2]
    refine⟨⟨j+1,hj,fun k hk=>?_⟩,by simp only; omega,?_⟩
    ·rcases Nat.lt_or_eq_of_le (Nat.le_of_lt_succ hk)with h|h
     ·exact g2 k h
     ·rw[h]; exact h2
    ·constructor<;>simp only[go_sem,simprocAttr,decide_eq_true_eq,Int.natCast_add,Int.natCast_one]<;>try ((repeat' apply And.intro)<;>first|rfl|omega|(congr 3; omega)|(congr 2; omega))
  ·have hj6:j=6:=by omega
   subst hj6
   rw[if_neg (by rw[mk_no s b hlt g2]; decide)]at hX
   have hq:hasF s qtS b=decide (bt s b=34):=by
    rw[<-isB_hasF s 34 b]; unfold isB; rw[decide_eq_true hlt,Bool.true_and]; rfl
   by_cases h3:bt s b=34
   ·rw[if_pos (by rw[hq]; exact decide_eq_true h3)]at hX
    have ct:=rtext_ok5 s b hlt hs
    obtain⟨t1,t2⟩:=ptsT_txt s b hlt
    rw[t1]at hX
    have cx:=ptext_ok (ptsT s b).2.1 (fun n hn=>by
     have:=List.all_eq_true.1 t2 n hn
     unfold isF at this
     simp at this
     constructor<;>omega)
    have hlen:=ptsT_len s b
    generalize ptsT s b=T at *
    obtain⟨c,l,q⟩:=T
    unfold rtxR at ct
    simp only at ct hX cx t2 hlen
    by_cases hc:c=0
    ·subst hc
     rw[nextE,if_pos rfl]at hX
     subst hX
     rw[if_pos rfl]at ct
     simp -implicitDefEqProofs (disch:=omega) only[go_sem,simprocAttr,szmk,b10,b20,b30,decide_eq_true h3]
     with_reducible refine CallOk.of ct rfl ?_
     simp -implicitDefEqProofs (disch:=omega) only[go_sem,simprocAttr,szmk,b10,b20,b30]
     with_reducible refine CallOk.of (cx (by omega)) rfl ?_
     simp -implicitDefEqProofs (disch:=omega) only[go_sem,simprocAttr,szmk,b10,b20,b30]
     rfl
    ·rw[nextE,if_neg hc]at hX
     subst hX
     rw[if_neg hc]at ct
     simp -implicitDefEqProofs (disch:=omega) only[go_sem,simprocAttr,szmk,b10,b20,b30,decide_eq_true h3]
     with_reducible refine CallOk.of ct rfl ?_
     simp -implicitDefEqProofs (disch:=omega) only[go_sem,simprocAttr,szmk,b10,b20,b30,decide_eq_false hc]
     rfl
   rw[if_neg (by rw[hq,decide_eq_false h3]; decide)]at hX
   have hm:hasF s nuS b=(decide (bt s b=45)||hasF s dgS b):=by
    rw[hasF_nu]; unfold isB; rw[decide_eq_true hlt,Bool.true_and]
   have cd:=rdigit_ok s b (by omega)
   have cn:=rnumber_ok s b hb.2 (by omega)
   by_cases h4:bt s b=45
   ·rw[if_pos (by rw[hm,decide_eq_true h4]; rfl)]at hX
    simp -implicitDefEqProofs (disch:=omega) only[go_sem,simprocAttr,szmk,b10,b20,b30,decide_eq_false h3,decide_eq_true h4]
    with_reducible refine CallOk.of cn rfl ?_
    rw[numF_r s b]at hX
    have hle:=rnumF_le s b hb.2
    generalize rnumF s b=T at *
    obtain⟨q,pl,ok⟩:=T
    simp only at hX hle
    cases ok with
    |false=>
     rw[if_pos rfl,nextE,if_neg (show ¬(1:Int)=0 by decide)]at hX
     subst hX
     simp -implicitDefEqProofs (disch:=omega) only[go_sem,simprocAttr,szmk,b10,b20,b30]
     rfl
    |true=>
    cases pl with
    |false=>
     rw[if_neg (show ¬(true=false) by decide),if_pos rfl,nextE,if_neg (show ¬(4:Int)=0 by decide)]at hX
     subst hX
     simp -implicitDefEqProofs (disch:=omega) only[go_sem,simprocAttr,szmk,b10,b20,b30]
     rfl
    |true=>
    have hq2:=hle rfl rfl
    rw[if_neg (show ¬(true=false) by decide),if_neg (show ¬(true=false) by decide)]at hX
    have cp:=rparse_ok (s.extract b q) (by rw[ByteArray.size_extract]; omega)
    have ci:=int_rep (pV (s.extract b q)) (pV_fits' _)
    obtain⟨sg,lf,er⟩:∃sg lf,repN (pV (s.extract b q)) = .agg [vB sg,.sl (encI lf)]:=⟨_,_,rfl⟩
    rw[er]at cp ci
    simp -implicitDefEqProofs (disch:=omega) only[go_sem,simprocAttr,szmk,b10,b20,b30]
    with_reducible refine CallOk.of cp rfl ?_
    by_cases hc:pC (s.extract b q)=0
    ·rw[if_pos hc,nextE,if_pos rfl]at hX
     subst hX
     simp -implicitDefEqProofs (disch:=omega) only[go_sem,simprocAttr,szmk,b10,b20,b30,hc]
     with_reducible refine CallOk.of ci rfl ?_
     simp -implicitDefEqProofs (disch:=omega) only[go_sem,simprocAttr,szmk,b10,b20,b30]
     rfl
    ·rw[if_neg hc,nextE,if_neg (show ¬(4:Int)=0 by decide)]at hX
     subst hX
     simp -implicitDefEqProofs (disch:=omega) only[go_sem,simprocAttr,szmk,b10,b20,b30,decide_eq_false hc]
     rfl
   cases h5:hasF s dgS b with
   |true=>
    rw[if_pos (by rw[hm,h5,Bool.or_true])]at hX
    simp -implicitDefEqProofs (disch:=omega) only[go_sem,simprocAttr,szmk,b10,b20,b30,decide_eq_false h3,decide_eq_false h4]
    with_reducible refine CallOk.of cd rfl ?_
    simp -implicitDefEqProofs (disch:=omega) only[go_sem,simprocAttr,szmk,b10,b20,b30,h5]
    with_reducible refine CallOk.of cn rfl ?_
    rw[numF_r s b]at hX
    have hle:=rnumF_le s b hb.2
    generalize rnumF s b=T at *
    obtain⟨q,pl,ok⟩:=T
    simp only at hX hle
    cases ok with
    |false=>
     rw[if_pos rfl,nextE,if_neg (show ¬(1:Int)=0 by decide)]at hX
     subst hX
     simp -implicitDefEqProofs (disch:=omega) only[go_sem,simprocAttr,szmk,b10,b20,b30]
     rfl
    |true=>
    cases pl with
    |false=>
     rw[if_neg (show ¬(true=false) by decide),if_pos rfl,nextE,if_neg (show ¬(4:Int)=0 by decide)]at hX
     subst hX
     simp -implicitDefEqProofs (disch:=omega) only[go_sem,simprocAttr,szmk,b10,b20,b30]
     rfl
    |true=>
    have hq2:=hle rfl rfl
    rw[if_neg (show ¬(true=false) by decide),if_neg (show ¬(true=false) by decide)]at hX
    have cp:=rparse_ok (s.extract b q) (by rw[ByteArray.size_extract]; omega)
    have ci:=int_rep (pV (s.extract b q)) (pV_fits' _)
    obtain⟨sg,lf,er⟩:∃sg lf,repN (pV (s.extract b q)) = .agg [vB sg,.sl (encI lf)]:=⟨_,_,rfl⟩
    rw[er]at cp ci
    simp -implicitDefEqProofs (disch:=omega) only[go_sem,simprocAttr,szmk,b10,b20,b30]
    with_reducible refine CallOk.of cp rfl ?_
    by_cases hc:pC (s.extract b q)=0
    ·rw[if_pos hc,nextE,if_pos rfl]at hX
     subst hX
     simp -implicitDefEqProofs (disch:=omega) only[go_sem,simprocAttr,szmk,b10,b20,b30,hc]
     with_reducible refine CallOk.of ci rfl ?_
     simp -implicitDefEqProofs (disch:=omega) only[go_sem,simprocAttr,szmk,b10,b20,b30]
     rfl
    ·rw[if_neg hc,nextE,if_neg (show ¬(4:Int)=0 by decide)]at hX
     subst hX
     simp -implicitDefEqProofs (disch:=omega) only[go_sem,simprocAttr,szmk,b10,b20,b30,decide_eq_false hc]
     rfl
   |false=>
   rw[if_neg (by rw[hm,h5,decide_eq_false h4]; decide)]at hX
   simp -implicitDefEqProofs (disch:=omega) only[go_sem,simprocAttr,szmk,b10,b20,b30,decide_eq_false h3,decide_eq_false h4]
   with_reducible refine CallOk.of cd rfl ?_
   simp -implicitDefEqProofs (disch:=omega) only[go_sem,simprocAttr,szmk,b10,b20,b30,h5]
   refine p_loop (ι:={ m:Nat // m<=3/\(1<=m->hasF s ⟨#[116]⟩ b=false)/\(2<=m->hasF s ⟨#[102]⟩ b=false)/\(3<=m->hasF s ⟨#[110]⟩ b=false) }) (fun p=>⟨[(115,vI p.1),(17,.ptr 19 0),(0,vS s),(1,vI b),(4,.ptr 0 0),(5,vI 0),(6,vI 0)],[(0,.box 46 Z5),(19,.box 85 [vS wd1,vS wd2,vS wd3])],[],20,0⟩) (fun p=>3-p.1) ⟨0,by omega,fun h=>by omega,fun h=>by omega,fun h=>by omega⟩ ?_ ?_
   ·constructor<;>simp only[go_sem,simprocAttr,decide_eq_true_eq,Int.natCast_zero]<;>try ((repeat' apply And.intro)<;>first|rfl|omega|(congr 3; omega)|(congr 2; omega))
   ·rintro⟨m,g1,g2,g3,g4⟩
    simp only at g1 g2 g3 g4 ⊢
    have hm3:m=0∨m=1∨m=2∨m=3:=by omega
    rcases hm3 with rfl|rfl|rfl|rfl
    ·skip
     have hw:hasF s ⟨#[116]⟩ b=decide (bt s b=116):=by
      rw[<-isB_hasF s 116 b]; unfold isB; rw[decide_eq_true hlt,Bool.true_and]; rfl
     by_cases h4:bt s b=116
     rotate_left
     ·simp -implicitDefEqProofs (disch:=omega) only[go_sem,simprocAttr,szmk,b10,b20,b30,decide_eq_false h4]
      refine⟨⟨1,by omega,fun h=>?_,fun h=>?_,fun h=>?_⟩,by simp only; omega,?_⟩
      ·rw[hw]; exact decide_eq_false h4
      ·omega
      ·omega
      constructor<;>simp only[go_sem,simprocAttr,decide_eq_true_eq,Int.natCast_zero]<;>try ((repeat' apply And.intro)<;>first|rfl|omega|(congr 3; omega)|(congr 2; omega))
     have hF:wordF s b=(if(litF s wd1 4 0 b).1=true then(0,4,(litF s wd1 4 0 b).2) else(1,0,(litF s wd1 4 0 b).2)):=by
      unfold wordF
      rw[if_pos (by rw[hw]; exact decide_eq_true h4)]
     rw[hF]at hX
     simp -implicitDefEqProofs (disch:=omega) only[go_sem,simprocAttr,szmk,b10,b20,b30,h4]
     refine p_loop (ι:={ k:Nat // k<=4/\litF s wd1 (4-k) k (b+k)=litF s wd1 4 0 b }) (fun p=>⟨[(19,vI p.1),(18,vI 0),(17,.ptr 19 0),(0,vS s),(1,vI b),(4,.ptr 0 0),(5,vI 0),(6,vI 0)],[(0,.box 46 Z5),(19,.box 85 [vS wd1,vS wd2,vS wd3])],[],20,0⟩) (fun p=>4-p.1) ⟨0,by omega,rfl⟩ ?_ ?_
     ·constructor<;>simp only[go_sem,simprocAttr,decide_eq_true_eq,Int.natCast_zero]<;>try ((repeat' apply And.intro)<;>first|rfl|omega|(congr 3; omega)|(congr 2; omega))
     ·rintro⟨k,e1,e2⟩
      simp only at e1 e2 ⊢
      by_cases hk:k<4
      ·have ck:=ris_ok5 s (b+k) (bt wd1 k) (by omega)
       rw[Int.natCast_add]at ck
       rw[show 4-k=(4-(k+1))+1 by omega,litF,isB_ext (w:=wd1) hk]at e2
       simp -implicitDefEqProofs (disch:=omega) only[go_sem,simprocAttr,szmk,b10,b20,b30]
       with_reducible refine CallOk.of ck rfl ?_
       cases h5:isB s (b+k) (bt wd1 k)with
       |true=>
        rw[if_pos h5]at e2
        simp -implicitDefEqProofs (disch:=omega) only[go_sem,simprocAttr,szmk,b10,b20,b30,h5]
        refine⟨⟨k+1,hk,by rw[<-e2]; rfl⟩,by simp only; omega,?_⟩
        constructor<;>simp only[go_sem,simprocAttr,decide_eq_true_eq,Int.natCast_add,Int.natCast_one]<;>try ((repeat' apply And.intro)<;>first|rfl|omega|(congr 3; omega)|(congr 2; omega))
       |false=>
        rw[if_neg (by rw[h5]; decide)]at e2
        rw[<-e2,if_neg (show ¬(false=true) by decide),nextE,if_neg (show ¬(1:Int)=0 by decide)]at hX
        subst hX
        simp -implicitDefEqProofs (disch:=omega) only[go_sem,simprocAttr,szmk,b10,b20,b30,h5]
        rfl
      ·have hk2:k=4:=by omega
       subst hk2
       rw[show 4-4=0 from rfl,litF]at e2
       rw[<-e2,if_pos rfl,nextE,if_pos rfl]at hX
       subst hX
       simp -implicitDefEqProofs (disch:=omega) only[go_sem,simprocAttr,szmk,b10,b20,b30]
       rfl
    ·skip
     have hw:hasF s ⟨#[102]⟩ b=decide (bt s b=102):=by
      rw[<-isB_hasF s 102 b]; unfold isB; rw[decide_eq_true hlt,Bool.true_and]; rfl
     by_cases h4:bt s b=102
     rotate_left
     ·simp -implicitDefEqProofs (disch:=omega) only[go_sem,simprocAttr,szmk,b10,b20,b30,decide_eq_false h4]
      refine⟨⟨2,by omega,fun h=>?_,fun h=>?_,fun h=>?_⟩,by simp only; omega,?_⟩
      ·exact g2 (by omega)
      ·rw[hw]; exact decide_eq_false h4
      ·omega
      constructor<;>simp only[go_sem,simprocAttr,decide_eq_true_eq,Int.natCast_zero]<;>try ((repeat' apply And.intro)<;>first|rfl|omega|(congr 3; omega)|(congr 2; omega))
     have hF:wordF s b=(if(litF s wd2 5 0 b).1=true then(0,5,(litF s wd2 5 0 b).2) else(1,0,(litF s wd2 5 0 b).2)):=by
      unfold wordF
      rw[if_neg (by rw[g2 (by omega)]; decide)]
      rw[if_pos (by rw[hw]; exact decide_eq_true h4)]
     rw[hF]at hX
     simp -implicitDefEqProofs (disch:=omega) only[go_sem,simprocAttr,szmk,b10,b20,b30,h4]
     refine p_loop (ι:={ k:Nat // k<=5/\litF s wd2 (5-k) k (b+k)=litF s wd2 5 0 b }) (fun p=>⟨[(19,vI p.1),(18,vI 1),(17,.ptr 19 0),(0,vS s),(1,vI b),(4,.ptr 0 0),(5,vI 0),(6,vI 0)],[(0,.box 46 Z5),(19,.box 85 [vS wd1,vS wd2,vS wd3])],[],20,0⟩) (fun p=>5-p.1) ⟨0,by omega,rfl⟩ ?_ ?_
     ·constructor<;>simp only[go_sem,simprocAttr,decide_eq_true_eq,Int.natCast_zero]<;>try ((repeat' apply And.intro)<;>first|rfl|omega|(congr 3; omega)|(congr 2; omega))
     ·rintro⟨k,e1,e2⟩
      simp only at e1 e2 ⊢
      by_cases hk:k<5
      ·have ck:=ris_ok5 s (b+k) (bt wd2 k) (by omega)
       rw[Int.natCast_add]at ck
       rw[show 5-k=(5-(k+1))+1 by omega,litF,isB_ext (w:=wd2) hk]at e2
       simp -implicitDefEqProofs (disch:=omega) only[go_sem,simprocAttr,szmk,b10,b20,b30]
       with_reducible refine CallOk.of ck rfl ?_
       cases h5:isB s (b+k) (bt wd2 k)with
       |true=>
        rw[if_pos h5]at e2
        simp -implicitDefEqProofs (disch:=omega) only[go_sem,simprocAttr,szmk,b10,b20,b30,h5]
        refine⟨⟨k+1,hk,by rw[<-e2]; rfl⟩,by simp only; omega,?_⟩
        constructor<;>simp only[go_sem,simprocAttr,decide_eq_true_eq,Int.natCast_add,Int.natCast_one]<;>try ((repeat' apply And.intro)<;>first|rfl|omega|(congr 3; omega)|(congr 2; omega))
       |false=>
        rw[if_neg (by rw[h5]; decide)]at e2
        rw[<-e2,if_neg (show ¬(false=true) by decide),nextE,if_neg (show ¬(1:Int)=0 by decide)]at hX
        subst hX
        simp -implicitDefEqProofs (disch:=omega) only[go_sem,simprocAttr,szmk,b10,b20,b30,h5]
        rfl
      ·have hk2:k=5:=by omega
       subst hk2
       rw[show 5-5=0 from rfl,litF]at e2
       rw[<-e2,if_pos rfl,nextE,if_pos rfl]at hX
       subst hX
       simp -implicitDefEqProofs (disch:=omega) only[go_sem,simprocAttr,szmk,b10,b20,b30]
       rfl
    ·skip
     have hw:hasF s ⟨#[110]⟩ b=decide (bt s b=110):=by
      rw[<-isB_hasF s 110 b]; unfold isB; rw[decide_eq_true hlt,Bool.true_and]; rfl
     by_cases h4:bt s b=110
     rotate_left
     ·simp -implicitDefEqProofs (disch:=omega) only[go_sem,simprocAttr,szmk,b10,b20,b30,decide_eq_false h4]
      refine⟨⟨3,by omega,fun h=>?_,fun h=>?_,fun h=>?_⟩,by simp only; omega,?_⟩
      ·exact g2 (by omega)
      ·exact g3 (by omega)
      ·rw[hw]; exact decide_eq_false h4
      constructor<;>simp only[go_sem,simprocAttr,decide_eq_true_eq,Int.natCast_zero]<;>try ((repeat' apply And.intro)<;>first|rfl|omega|(congr 3; omega)|(congr 2; omega))
     have hF:wordF s b=(if(litF s wd3 4 0 b).1=true then(0,6,(litF s wd3 4 0 b).2) else(1,0,(litF s wd3 4 0 b).2)):=by
      unfold wordF
      rw[if_neg (by rw[g2 (by omega)]; decide)]
      rw[if_neg (by rw[g3 (by omega)]; decide)]
      rw[if_pos (by rw[hw]; exact decide_eq_true h4)]
     rw[hF]at hX
     simp -implicitDefEqProofs (disch:=omega) only[go_sem,simprocAttr,szmk,b10,b20,b30,h4]
     refine p_loop (ι:={ k:Nat // k<=4/\litF s wd3 (4-k) k (b+k)=litF s wd3 4 0 b }) (fun p=>⟨[(19,vI p.1),(18,vI 2),(17,.ptr 19 0),(0,vS s),(1,vI b),(4,.ptr 0 0),(5,vI 0),(6,vI 0)],[(0,.box 46 Z5),(19,.box 85 [vS wd1,vS wd2,vS wd3])],[],20,0⟩) (fun p=>4-p.1) ⟨0,by omega,rfl⟩ ?_ ?_
     ·constructor<;>simp only[go_sem,simprocAttr,decide_eq_true_eq,Int.natCast_zero]<;>try ((repeat' apply And.intro)<;>first|rfl|omega|(congr 3; omega)|(congr 2; omega))
     ·rintro⟨k,e1,e2⟩
      simp only at e1 e2 ⊢
      by_cases hk:k<4
      ·have ck:=ris_ok5 s (b+k) (bt wd3 k) (by omega)
       rw[Int.natCast_add]at ck
       rw[show 4-k=(4-(k+1))+1 by omega,litF,isB_ext (w:=wd3) hk]at e2
       simp -implicitDefEqProofs (disch:=omega) only[go_sem,simprocAttr,szmk,b10,b20,b30]
       with_reducible refine CallOk.of ck rfl ?_
       cases h5:isB s (b+k) (bt wd3 k)with
       |true=>
        rw[if_pos h5]at e2
        simp -implicitDefEqProofs (disch:=omega) only[go_sem,simprocAttr,szmk,b10,b20,b30,h5]
        refine⟨⟨k+1,hk,by rw[<-e2]; rfl⟩,by simp only; omega,?_⟩
        constructor<;>simp only[go_sem,simprocAttr,decide_eq_true_eq,Int.natCast_add,Int.natCast_one]<;>try ((repeat' apply And.intro)<;>first|rfl|omega|(congr 3; omega)|(congr 2; omega))
       |false=>
        rw[if_neg (by rw[h5]; decide)]at e2
        rw[<-e2,if_neg (show ¬(false=true) by decide),nextE,if_neg (show ¬(1:Int)=0 by decide)]at hX
        subst hX
        simp -implicitDefEqProofs (disch:=omega) only[go_sem,simprocAttr,szmk,b10,b20,b30,h5]
        rfl
      ·have hk2:k=4:=by omega
       subst hk2
       rw[show 4-4=0 from rfl,litF]at e2
       rw[<-e2,if_pos rfl,nextE,if_pos rfl]at hX
       subst hX
       simp -implicitDefEqProofs (disch:=omega) only[go_sem,simprocAttr,szmk,b10,b20,b30]
       rfl
    ·have hF:wordF s b=(1,0,b):=by
      unfold wordF
      rw[if_neg (by rw[g2 (by omega)]; decide),if_neg (by rw[g3 (by omega)]; decide),if_neg (by rw[g4 (by omega)]; decide)]
     rw[hF,nextE,if_neg (show ¬(1:Int)=0 by decide)]at hX
     subst hX
     simp -implicitDefEqProofs (disch:=omega) only[go_sem,simprocAttr,szmk,b10,b20,b30]
     rfl
end Go.Proofs.YtcgmpcbkndpmbaaGreatDoor

end
section
open Go Go.Proofs Go.Pw Go.RowKit
namespace Go.Proofs.YtcgmpcbkndpmbaaGreatDoor
set_option maxRecDepth 4000
set_option linter.unusedVariables false
set_option linter.unusedSimpArgs false
attribute [local go_sem] Nat.le_refl Tryz.results23
def putF (v:V)(key:ByteArray)(x:V):PV:=
 if foundT v.keys key=true then .tup [.agg (cellsV v),vB false]
 else .tup [.agg (cellsV (.mk 5 false 0 ByteArray.empty (insAt v.items (posT v.keys key) x) (insAt v.keys (posT v.keys key) key))),vB true]
set_option maxHeartbeats 8000000 in
theorem put_ok (v:V)(key:ByteArray)(x:V)(hv:szV v<=1000000)(hk:v.keys.length<=v.items.length):Ok Tryz.prog 23 [.agg (cellsV v),vS key,.agg (cellsV x)] (putF v key x):=by
 obtain⟨hl,hl2,hx,hs⟩:=V.small hv
 suffices key:∀rr,rr=putF v key x->Ok Tryz.prog 23 [.agg (cellsV v),vS key,.agg (cellsV x)] rr from key _ rfl
 intro rr hr
 refine Ok.of_pwp (by kernel_rfl) Tryz.func23 rfl (by kernel_rfl) (by kernel_rfl) ?_
 simp -implicitDefEqProofs (disch:=omega) only[go_sem,simprocAttr,cellsV,encT_take,encT_drop,encV_take,encV_drop,List.take_length]
 refine p_loop (ι:={ i:Nat // i<=v.keys.length/\∀k,k<i->ltT (v.keys.getD k ByteArray.empty) key=true })
  (fun p=>⟨[(8,vI p.1),(7,vB false),(6,.ptr 2 0),(5,.ptr 1 0),(3,.ptr 0 0),(1,vS key)],[(2,.box 28 [vI 0,vB false,vI 0,vS ByteArray.empty,vNil,vNil]),(1,.box 28 (cellsV x)),(0,.box 28 (cellsV v))],[],3,0⟩) (fun p=>v.keys.length-p.1) ⟨0,Nat.zero_le _,fun k h=>absurd h (Nat.not_lt_zero _)⟩ ?_ ?_
 ·constructor<;>simp only[go_sem,simprocAttr,decide_eq_true_eq,Int.natCast_zero]<;>try ((repeat' apply And.intro)<;>first|rfl|omega|(congr 3; omega)|(congr 2; omega))
 ·rintro⟨i,h1,h2⟩
  simp only at h1 h2 ⊢
  by_cases hi:i<v.keys.length
  ·cases hc:ltT (v.keys.getD i ByteArray.empty) key with
   |true=>
    unfold ltT at hc
    simp -implicitDefEqProofs (disch:=omega) only[go_sem,simprocAttr,cellsV,hc]
    refine⟨⟨i+1,hi,fun k hk=>?_⟩,by simp only; omega,?_⟩
    ·rcases Nat.lt_or_eq_of_le (Nat.le_of_lt_succ hk)with h|h
     ·exact h2 k h
     ·rw[h]; exact hc
    ·constructor<;>simp only[go_sem,simprocAttr,decide_eq_true_eq,Int.natCast_add,Int.natCast_one]<;>try ((repeat' apply And.intro)<;>first|rfl|omega|(congr 3; omega)|(congr 2; omega))
   |false=>
    have hp:posT v.keys key=i:=posT_of h1 h2 (fun _=>hc)
    have hf:foundT v.keys key=decide (v.keys.getD i ByteArray.empty=key):=by unfold foundT; rw[hp,decide_eq_true hi,Bool.true_and]
    unfold ltT at hc
    unfold putF at hr
    rw[hf,hp]at hr
    by_cases he:v.keys.getD i ByteArray.empty=key
    ·rw[if_pos (decide_eq_true he)]at hr
     have hc':=hc
     rw[he]at hc'
     simp -implicitDefEqProofs (disch:=omega) only[go_sem,simprocAttr,cellsV,he,hc']
     rw[hr]
    ·rw[if_neg (by rw[decide_eq_false he]; decide)]at hr
     simp -implicitDefEqProofs (disch:=omega) only[go_sem,simprocAttr,cellsV,hc,he,encT_take,encT_drop,encV_take,encV_drop]
     (have ht1:(v.keys.take i).length=i:=by rw[List.length_take]; omega); (have ht2:(v.items.take i).length=i:=by rw[List.length_take]; omega); (have ht3:(v.keys.drop i).length=v.keys.length-i:=List.length_drop); (have ht4:(v.items.drop i).length=v.items.length-i:=List.length_drop); refine appZ_any rfl rfl (by rw[encT_len,List.length_nil]; omega) (by rw[encT_len,List.length_nil]; omega) ?_; (simp -implicitDefEqProofs (disch:=omega) only[go_sem,simprocAttr,cellsV,encT_take,encT_drop,encV_take,encV_drop,List.take_length]); refine appZ_any rfl (by simp only[List.length_append,encT_len,List.length_singleton]) (by simp only[List.length_append,encT_len,List.length_singleton]; omega) (by simp only[List.length_append,encT_len,List.length_singleton]; omega) ?_; (simp -implicitDefEqProofs (disch:=omega) only[go_sem,simprocAttr,cellsV,encT_take,encT_drop,encV_take,encV_drop,List.take_length]); refine appZ_any rfl rfl (by rw[encV_len,List.length_nil]; omega) (by rw[encV_len,List.length_nil]; omega) ?_; (simp -implicitDefEqProofs (disch:=omega) only[go_sem,simprocAttr,cellsV,encT_take,encT_drop,encV_take,encV_drop,List.take_length]); refine appZ_any rfl (by simp only[List.length_append,encV_len,List.length_singleton]) (by simp only[List.length_append,encV_len,List.length_singleton]; omega) (by simp only[List.length_append,encV_len,List.length_singleton]; omega) ?_; (simp -implicitDefEqProofs (disch:=omega) only[go_sem,simprocAttr,cellsV,encT_take,encT_drop,encV_take,encV_drop,List.take_length]); rw[hr]; simp only[insAt,encT,encV_map,List.map_append,List.map_cons,List.map_nil,cellsV,V.kind_mk,V.b_mk,V.n_mk,V.s_mk,V.items_mk,V.keys_mk]
  ·have hie:i=v.keys.length:=by omega
   have hp:posT v.keys key=i:=posT_of h1 h2 (fun h=>absurd h hi)
   have hf:foundT v.keys key=false:=by unfold foundT; rw[hp,decide_eq_false hi,Bool.false_and]
   unfold putF at hr
   rw[if_neg (by rw[hf]; decide),hp]at hr
   simp -implicitDefEqProofs (disch:=omega) only[go_sem,simprocAttr,cellsV,encT_take,encT_drop,encV_take,encV_drop,List.take_length]
   (have ht1:(v.keys.take i).length=i:=by rw[List.length_take]; omega); (have ht2:(v.items.take i).length=i:=by rw[List.length_take]; omega); (have ht3:(v.keys.drop i).length=v.keys.length-i:=List.length_drop); (have ht4:(v.items.drop i).length=v.items.length-i:=List.length_drop); refine appZ_any rfl rfl (by rw[encT_len,List.length_nil]; omega) (by rw[encT_len,List.length_nil]; omega) ?_; (simp -implicitDefEqProofs (disch:=omega) only[go_sem,simprocAttr,cellsV,encT_take,encT_drop,encV_take,encV_drop,List.take_length]); refine appZ_any rfl (by simp only[List.length_append,encT_len,List.length_singleton]) (by simp only[List.length_append,encT_len,List.length_singleton]; omega) (by simp only[List.length_append,encT_len,List.length_singleton]; omega) ?_; (simp -implicitDefEqProofs (disch:=omega) only[go_sem,simprocAttr,cellsV,encT_take,encT_drop,encV_take,encV_drop,List.take_length]); refine appZ_any rfl rfl (by rw[encV_len,List.length_nil]; omega) (by rw[encV_len,List.length_nil]; omega) ?_; (simp -implicitDefEqProofs (disch:=omega) only[go_sem,simprocAttr,cellsV,encT_take,encT_drop,encV_take,encV_drop,List.take_length]); refine appZ_any rfl (by simp only[List.length_append,encV_len,List.length_singleton]) (by simp only[List.length_append,encV_len,List.length_singleton]; omega) (by simp only[List.length_append,encV_len,List.length_singleton]; omega) ?_; (simp -implicitDefEqProofs (disch:=omega) only[go_sem,simprocAttr,cellsV,encT_take,encT_drop,encV_take,encV_drop,List.take_length]); rw[hr]; simp only[insAt,encT,encV_map,List.map_append,List.map_cons,List.map_nil,cellsV,V.kind_mk,V.b_mk,V.n_mk,V.s_mk,V.items_mk,V.keys_mk]
end Go.Proofs.YtcgmpcbkndpmbaaGreatDoor

end
section
open Go Go.Proofs Go.Pw Go.RowKit
namespace Go.Proofs.YtcgmpcbkndpmbaaGreatDoor
set_option maxRecDepth 4000
set_option linter.unusedVariables false
set_option linter.unusedSimpArgs false
theorem putAll_snoc:∀(ks:List ByteArray)(l:List V)(K0:List ByteArray)(I0:List V)(k:ByteArray)(v:V),ks.length=l.length->putAll K0 I0 (ks++[k]) (l++[v])=(match putAll K0 I0 ks l with
  |some (K,I)=>if foundT K k=true then none else some (insAt K (posT K k) k,insAt I (posT K k) v)
  |none=>none)
 | [],[],K0,I0,k,v,h=>by
  have e:putAll K0 I0 [] []=some (K0,I0):=by rw[putAll]; intro a b c d h; cases h
  rw[e]
  simp only[List.nil_append]
  rw[putAll]
  split
  ·rfl
  ·rw[putAll]; intro a b c d h; cases h
 |x::r,y::m,K0,I0,k,v,h=>by
  rw[List.cons_append,List.cons_append,putAll,putAll]
  split
  ·rfl
  ·exact putAll_snoc r m _ _ k v (by simpa using h)
 | [],y::m,K0,I0,k,v,h=>by simp at h
 |x::r,[],K0,I0,k,v,h=>by simp at h
structure OrdI (ks:List ByteArray) (l:List V) (K:List ByteArray) (I:List V):Prop where
 e:putAll [] [] ks l=some (K,I)
 sort:SortT K
 mem:∀x,x∈K↔x∈ks
 len:K.length=I.length
 len2:ks.length=l.length
theorem OrdI.nil:OrdI [] [] [] []:=by
 refine⟨?_,List.Pairwise.nil,fun x=>Iff.rfl,rfl,rfl⟩
 rfl
theorem mem_insAt {α:Type}{l:List α}{i:Nat}{y x:α}:x∈insAt l i y↔x∈l∨x=y:=by
 unfold insAt
 have e:l=l.take i++l.drop i:=(List.take_append_drop i l).symm
 rw[List.mem_append,List.mem_append,List.mem_singleton]
 have h2:x∈l↔x∈l.take i∨x∈l.drop i:=by
  conv=>lhs; rw[e]
  exact List.mem_append
 rw[h2]
 constructor
 ·rintro((h|h)|h)
  ·exact .inl (.inl h)
  ·exact .inr h
  ·exact .inl (.inr h)
 ·rintro((h|h)|h)
  ·exact .inl (.inl h)
  ·exact .inr h
  ·exact .inl (.inr h)
theorem found_mem {l:List ByteArray}{t:ByteArray}(h:foundT l t=true):t∈l:=by
 unfold foundT at h
 simp only[Bool.and_eq_true,decide_eq_true_eq]at h
 rw[<-h.2,List.getD_eq_getElem?_getD,List.getElem?_eq_getElem h.1]
 exact List.getElem_mem h.1
theorem OrdI.found {ks:List ByteArray}{l:List V}{K:List ByteArray}{I:List V}(h:OrdI ks l K I){key:ByteArray}(hk:key ∉ ks):foundT K key=false:=by
 cases hf:foundT K key with
 |false=>rfl
 |true=>exact absurd ((h.mem key).1 (found_mem hf)) hk
theorem OrdI.step {ks:List ByteArray}{l:List V}{K:List ByteArray}{I:List V}(h:OrdI ks l K I){key:ByteArray}(hk:key ∉ ks)(v:V):OrdI (ks++[key]) (l++[v]) (insAt K (posT K key) key) (insAt I (posT K key) v):=by
 have hf:=h.found hk
 have hp:=posT_le K key
 refine⟨?_,ins_sort h.sort hf,fun x=>?_,?_,by simp[h.len2]⟩
 ·rw[putAll_snoc ks l [] [] key v h.len2,h.e]
  simp only
  rw[if_neg (by rw[hf]; decide)]
 ·rw[mem_insAt,h.mem,List.mem_append,List.mem_singleton]
 ·rw[insAt_len hp,insAt_len (by rw[<-h.len]; exact hp),h.len]
theorem OrdI.val {ks:List ByteArray}{l:List V}{K:List ByteArray}{I:List V}(h:OrdI ks l K I):objV ks l = .mk 5 false 0 ByteArray.empty I K:=by
 unfold objV
 rw[h.e]
theorem any_mem {ks:List ByteArray}{key:ByteArray}:(ks.any fun k=>decide (k=key))=true↔key∈ks:=by
 rw[List.any_eq_true]
 constructor
 ·rintro⟨x,h1,h2⟩
  rw[<-of_decide_eq_true h2]; exact h1
 ·exact fun h=>⟨key,h,decide_eq_true rfl⟩
def An.pure (A:An):Prop:=(A.code≠0->A = .bad A.code A.place)/\(A.code=0->A = .good A.v A.at_)
theorem An.bad_pure (e:Int)(p:Nat)(h:e≠0):(An.bad e p).pure:=⟨fun _=>rfl,fun h'=>absurd h' h⟩
theorem An.good_pure (v:V)(q:Nat):(An.good v q).pure:=⟨fun h=>absurd rfl h,fun _=>rfl⟩
theorem rItems_pure {s:ByteArray}{f:Nat->An}:∀n i l,(rItems s f n i l).pure
 |0,i,l=>An.bad_pure _ _ (by decide)
 |n+1,i,l=>by
  rw[rItems]
  repeat' split
  all_goals first|exact An.bad_pure _ _ (by assumption)|exact An.bad_pure _ _ (by decide)|exact An.good_pure _ _|exact rItems_pure n _ _
theorem rMems_pure {s:ByteArray}{f:Nat->An}:∀n i ks l,(rMems s f n i ks l).pure
 |0,i,ks,l=>An.bad_pure _ _ (by decide)
 |n+1,i,ks,l=>by
  rw[rMems]
  repeat' split
  all_goals first|exact An.bad_pure _ _ (by assumption)|exact An.bad_pure _ _ (by decide)|exact An.good_pure _ _|exact rMems_pure n _ _ _
theorem rVh_pure {s:ByteArray}{i:Nat}{g:An}(hg:g.pure):(rVh s i g).pure:=by
 unfold rVh
 repeat' split
 all_goals first|exact An.bad_pure _ _ (by assumption)|exact An.bad_pure _ _ (by decide)|exact An.good_pure _ _|exact hg
theorem rV_pure (s:ByteArray):∀k i,(rV s k i).pure
 |0,i=>by rw[rV]; exact rVh_pure (An.bad_pure _ _ (by decide))
 |k+1,i=>by
  rw[rV]
  refine rVh_pure ?_
  split
  ·unfold rArr
   repeat' split
   all_goals first|exact An.bad_pure _ _ (by assumption)|exact An.good_pure _ _|exact rItems_pure _ _ _
  ·unfold rObj
   repeat' split
   all_goals first|exact An.bad_pure _ _ (by assumption)|exact An.good_pure _ _|exact rMems_pure _ _ _ _
theorem rV_err {s:ByteArray}{k i:Nat}(h:nE s i≠0):rV s k i = .bad (nE s i) (nP s i):=by
 cases k<;>(rw[rV]; unfold rVh; rw[if_pos h])
end Go.Proofs.YtcgmpcbkndpmbaaGreatDoor

end
section
open Go Go.Proofs Go.Pw Go.RowKit
namespace Go.Proofs.YtcgmpcbkndpmbaaGreatDoor
set_option maxRecDepth 4000
set_option linter.unusedVariables false
set_option linter.unusedSimpArgs false
set_option linter.unusedSectionVars false
theorem nT_props (s:ByteArray)(i:Nat)(hn:∀b, -9223372036854775808<=(numF s b).2.1/\(numF s b).2.1<=9223372036854775807):((nT s i).kind=2->isT (nT s i).text=true)/\(-9223372036854775808<=(nT s i).int/\(nT s i).int<=9223372036854775807):=by
 have z0 : -9223372036854775808<=(0:Int)/\(0:Int)<=9223372036854775807:=by decide
 have base:∀(e:Int) (b:Nat) (t:Tk) (q:Nat),(t.kind=2->isT t.text=true)->(-9223372036854775808<=t.int/\t.int<=9223372036854775807)->((nextE i b e t q).2.2.1.kind=2->isT (nextE i b e t q).2.2.1.text=true)/\(-9223372036854775808<=(nextE i b e t q).2.2.1.int/\(nextE i b e t q).2.2.1.int<=9223372036854775807):=fun e b t q h1 h2=>by
  unfold nextE
  split
  ·exact⟨h1,h2⟩
  ·exact⟨fun _=>isT_empty,z0⟩
 show((nextF s i).2.2.1.kind=2->isT (nextF s i).2.2.1.text=true)/\(-9223372036854775808<=(nextF s i).2.2.1.int/\(nextF s i).2.2.1.int<=9223372036854775807)
 unfold nextF
 split
 ·exact⟨fun h=>absurd h (show ¬(0:Int)=2 by decide),z0⟩
 split
 ·exact base _ _ _ _ (fun h=>absurd h (show ¬(1:Int)=2 by decide)) z0
 split
 ·rename_i h
  exact base _ _ _ _ (fun _=>txtT_isT (hasF_lt h)) z0
 split
 ·exact base _ _ _ _ (fun h=>absurd h (show ¬(3:Int)=2 by decide)) (hn _)
 ·exact base _ _ _ _ (fun _=>isT_empty) z0
theorem numF_fit (s:ByteArray)(b:Nat) : -9223372036854775808<=(numF s b).2.1/\(numF s b).2.1<=9223372036854775807:=by
 have z : -9223372036854775808<=(0:Int)/\(0:Int)<=9223372036854775807:=by decide
 unfold numF numY
 split
 ·unfold numX
  split
  ·split
   ·unfold numT
    split
    ·exact pV_fits' _
    ·exact z
   ·exact z
  ·exact z
 ·exact z
theorem mem_step {s:ByteArray}{f:Nat->An}(hfe:∀q,nE s q≠0->f q = .bad (nE s q) (nP s q)){n q:Nat}{ks:List ByteArray}{l:List V}(h0:nE s q=0):rMems s f (n+1) q ks l=if(memB s f q ks).code≠0 then .bad (memB s f q ks).code (memB s f q ks).place else
  if(nT s (memB s f q ks).at_).sign 125=true then .good (objV (ks++[(nT s q).text]) (l++[(memB s f q ks).v])) (nQ s (memB s f q ks).at_) else
  if(nT s (memB s f q ks).at_).sign 44=true then rMems s f n (nQ s (memB s f q ks).at_) (ks++[(nT s q).text]) (l++[(memB s f q ks).v]) else .bad 1 (nT s (memB s f q ks).at_).at_:=by
 rw[rMems,if_neg (fun h=>h h0)]
 unfold memB
 by_cases h1:(nT s q).kind≠2
 ·rw[if_pos h1,if_pos h1]; rfl
 rw[if_neg h1,if_neg h1]
 by_cases h2:(ks.any fun k=>decide (k=(nT s q).text))=true
 ·rw[if_pos h2,if_pos h2]; rfl
 rw[if_neg h2,if_neg h2]
 by_cases h3:nE s (nQ s q)≠0
 ·rw[if_pos h3,if_pos h3,if_pos (show(An.bad (nE s (nQ s q)) (nP s (nQ s q))).code≠0 from h3)]; rfl
 rw[if_neg h3,if_neg h3]
 by_cases h4:(nT s (nQ s q)).sign 58=false
 ·rw[if_pos h4,if_pos h4]; rfl
 rw[if_neg h4,if_neg h4]
 by_cases h5:nE s (nQ s (nQ s q))≠0
 ·have h8:(An.bad (nE s (nQ s (nQ s q))) (nP s (nQ s (nQ s q)))).code≠0:=h5
  rw[if_pos h5,hfe _ h5]
  simp only[if_pos h8]
 rw[if_neg h5]
 unfold fin
 by_cases h6:(f (nQ s (nQ s q))).code≠0
 ·simp only[if_pos h6]
 ·simp only[if_neg h6]
  by_cases h7:nE s (f (nQ s (nQ s q))).at_≠0
  ·have h8:(An.bad (nE s (f (nQ s (nQ s q))).at_) (nP s (f (nQ s (nQ s q))).at_)).code≠0:=h7
   simp only[if_pos h7,if_pos h8]
   rfl
  ·simp only[if_neg h7,if_neg h6]
theorem mem_ok {s:ByteArray}{f:Nat->An}(hfo:∀q,q<=s.size->AnOk s q (f q)){q:Nat}(hq:q<=s.size)(h0:nE s q=0){ks:List ByteArray}(hc:(memB s f q ks).code=0) :
  (nT s q).kind=2/\(nT s q).text ∉ ks/\q<(memB s f q ks).at_/\(memB s f q ks).at_<=s.size/\nE s (memB s f q ks).at_=0:=by
 unfold memB at hc ⊢
 by_cases h1:(nT s q).kind≠2
 ·rw[if_pos h1]at hc; exact absurd hc (show ¬(1:Int)=0 by decide)
 rw[if_neg h1]at hc ⊢
 by_cases h2:(ks.any fun k=>decide (k=(nT s q).text))=true
 ·rw[if_pos h2]at hc; exact absurd hc (show ¬(5:Int)=0 by decide)
 rw[if_neg h2]at hc ⊢
 by_cases h3:nE s (nQ s q)≠0
 ·rw[if_pos h3]at hc; exact absurd hc h3
 rw[if_neg h3]at hc ⊢
 by_cases h4:(nT s (nQ s q)).sign 58=false
 ·rw[if_pos h4]at hc; exact absurd hc (show ¬(1:Int)=0 by decide)
 rw[if_neg h4]at hc ⊢
 by_cases h5:nE s (nQ s (nQ s q))≠0
 ·rw[if_pos h5]at hc; exact absurd hc h5
 rw[if_neg h5]at hc ⊢
 have t1:=tk_ok s q hq
 have t2:=tk_ok s (nQ s q) t1.le
 have p1:=t1.lt h0 (by omega)
 have p2:=t2.lt (by omega) (by rw[sign_kind (c:=58) (by simpa using h4)]; decide)
 refine⟨by omega,fun h=>h2 (any_mem.2 h),?_⟩
 unfold fin at hc ⊢
 by_cases h6:(f (nQ s (nQ s q))).code≠0
 ·rw[if_pos h6]at hc; exact absurd hc h6
 rw[if_neg h6]at hc ⊢
 have a:=hfo _ t2.le (by omega)
 by_cases h7:nE s (f (nQ s (nQ s q))).at_≠0
 ·rw[if_pos h7]at hc; exact absurd hc h7
 rw[if_neg h7]
 omega
theorem objF_ord {ks:List ByteArray}{l:List V}{K:List ByteArray}{I:List V}(h:OrdI ks l K I)(ht:∀k∈ks,isT k=true):objF ks l = .tup [.agg (cellsV (objV ks l)),vI 0]:=by
 unfold objF
 rw[if_neg (by rw[h.len2]; exact fun h=>h rfl),if_neg,h.e,objR,h.val]
 rw[List.any_eq_true]
 rintro⟨k,hk,h2⟩
 rw[ht k hk]at h2
 cases h2
def GD (v:V):Prop:=goodB v=true/\fitV v=true
theorem GD.arr {l:List V}(h:∀v∈l,GD v):GD (.mk 4 false 0 ByteArray.empty l []):=by
 constructor
 ·rw[goodB_eq]
  have:l.all goodB=true:=List.all_eq_true.2 (fun x hx=>(h x hx).1)
  simp only[V.kind_mk,V.b_mk,V.n_mk,V.s_mk,V.items_mk,V.keys_mk,this,isT_empty]
  rfl
 ·rw[fitV_eq]
  have:l.all fitV=true:=List.all_eq_true.2 (fun x hx=>(h x hx).2)
  simp only[V.n_mk,V.items_mk,this]
  rfl
theorem GD.obj {l:List V}{ks:List ByteArray}(h:∀v∈l,GD v)(hs:SortT ks)(hl:ks.length=l.length)(ht:∀k∈ks,isT k=true):GD (.mk 5 false 0 ByteArray.empty l ks):=by
 constructor
 ·rw[goodB_eq]
  have h1:l.all goodB=true:=List.all_eq_true.2 (fun x hx=>(h x hx).1)
  have h2:keyedB 5 l.length ks=true:=by
   unfold keyedB
   rw[List.all_eq_true.2 ht,(sortB_iff ks).2 hs,decide_eq_true hl]
   rfl
  simp only[V.kind_mk,V.b_mk,V.n_mk,V.s_mk,V.items_mk,V.keys_mk,h1,h2,isT_empty]
  rfl
 ·rw[fitV_eq]
  have:l.all fitV=true:=List.all_eq_true.2 (fun x hx=>(h x hx).2)
  simp only[V.n_mk,V.items_mk,this]
  rfl
theorem putAll_items:∀(r:List ByteArray)(vs:List V)(ks:List ByteArray)(is:List V) K I,putAll ks is r vs=some (K,I)->∀v∈I,v∈is∨v∈vs
 | [],vs,ks,is,K,I,h,v,hv=>by
  rw[putAll]at h
  ·simp only[Option.some.injEq,Prod.mk.injEq]at h
   obtain⟨rfl,rfl⟩:=h
   exact .inl hv
  ·intro k r v vs h; cases h
 |k::r,[],ks,is,K,I,h,v,hv=>by
  rw[putAll]at h
  ·simp only[Option.some.injEq,Prod.mk.injEq]at h
   obtain⟨rfl,rfl⟩:=h
   exact .inl hv
  ·intro k r v vs _ h; cases h
 |k::r,w::vs,ks,is,K,I,h,v,hv=>by
  rw[putAll]at h
  split at h
  ·cases h
  ·rcases putAll_items r vs _ _ K I h v hv with h'|h'
   ·rcases mem_insAt.1 h' with h'|rfl
    ·exact .inl h'
    ·exact .inr (by simp)
   ·exact .inr (List.mem_cons_of_mem _ h')
theorem OrdI.good {ks:List ByteArray}{l:List V}{K:List ByteArray}{I:List V}(h:OrdI ks l K I)(ht:∀k∈ks,isT k=true)(hg:∀v∈l,GD v):GD (objV ks l):=by
 rw[h.val]
 refine GD.obj (fun v hv=>?_) h.sort h.len (fun k hk=>ht k ((h.mem k).1 hk))
 rcases putAll_items _ _ _ _ _ _ h.e v hv with h'|h'
 ·cases h'
 ·exact hg v h'
section
variable {s:ByteArray} {f:Nat->An} (hn:∀b, -9223372036854775808<=(numF s b).2.1/\(numF s b).2.1<=9223372036854775807) (hf:∀q,(f q).code=0->GD (f q).v)
include hn hf
end
end Go.Proofs.YtcgmpcbkndpmbaaGreatDoor

end
section
namespace Go.Pw
open Go Go.RowKit
set_option linter.unusedVariables false
set_option linter.unusedSimpArgs false
theorem OkI.freezeM {P:Program}{g:FuncId}{ags:List PV}{st:PS}{Q:PV->PS->Prop}{i:Nat}{T:TypeId}{cs ds:List PV}(sz k:Nat)(ho:lkp st.heap i=some (.box T cs))(hf:fzL (cs.take k)=some ds)(ok:OkI P g (PV.mfL i sz ds ags) { st with heap:=dropH [i] st.heap } Q):OkI P g ags st Q:=by
 refine⟨ok.1,fun own S0 w0 w C vals R hn hr=>?_⟩
 obtain⟨S1,R1,X,h⟩:=R.freezeBoxK k ho hf
 refine(ok.2 own S0 w0 w { C with S:=S1 } vals R1 (by rw[mfL_len]; exact hn) (fun j v p hv hp=>?_)).mono ?_
 ·rw[mfL_get]at hp
  obtain⟨q,hq,rfl⟩:=Option.map_eq_some_iff.1 hp
  exact RepV.mf (C:={ C with S:=S1 }) h ((hr j v q hv hq).ext X)
 ·rintro e w' ⟨r,st',v,C',h1,h2,h3,h4,h5⟩
  exact⟨r,st',v,C',h1,h2,h3,X.trans h4,h5⟩
end Go.Pw

end
