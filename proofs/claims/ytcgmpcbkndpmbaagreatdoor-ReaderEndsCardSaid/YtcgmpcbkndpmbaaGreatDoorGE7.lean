/-
  Contracts and plain laws on the way to the statement; each says its own conditions.
-/
import Derived.Test.YtcgmpcbkndpmbaaGreatDoorGE6
import Derived.Lib.TrimUEq
import Derived.Sort.Walk0
import Derived.Shelf.Spec.SlicesInsertGrow
import Derived.Test.YtcgmpcbkndpmbaaGreatDoorProg
import Derived.Test.YtcgmpcbkndpmbaaGreatDoorGE3
import Derived.Lib.Builder
section
open Go Go.Proofs Go.Pw
namespace Go.Proofs.YtcgmpcbkndpmbaaGreatDoor
set_option maxRecDepth 4000
set_option linter.unusedVariables false
set_option linter.unusedSimpArgs false
attribute [local go_sem] Int.toNat_natCast Int.toNat_one Int.toNat_zero Nat.le_refl Tryz.results38 Tryz.results59
abbrev nz (z:Int):PV:= .agg [vB false,.sl (encI (figs z.natAbs))]
theorem repN_nn {z:Int}(h:0<=z):repN z=nz z:=by unfold repN; rw[decide_eq_false (by omega)]
theorem fg1 {z:Int}(h:z.natAbs<10000):Fg 1 z:=by unfold Fg; simpa using h
set_option maxHeartbeats 4000000 in
theorem number_ok (t:ByteArray)(h:allD t 0)(ht:t.size<=8000):Ok Tryz.prog 59 [vS t] (repN (numV t t.size)):=by
 have c1:Ok Tryz.prog 26 [vI 10] (nz 10):=by rw[<-repN_nn (by decide)]; exact of_rep 10 (by decide)
 rw[repN_nn (numV_nn h (Nat.le_refl _))]
 refine Ok.of_pwp (by kernel_rfl) Tryz.func59 rfl (by kernel_rfl) (by kernel_rfl) ?_
 simp -implicitDefEqProofs (disch:=omega) only[go_sem,simprocAttr]
 refine p_loop (ι:={ i:Nat // i<=t.size }) (fun i=>⟨[(4,vI i.1),(3,.ptr 2 0),(2,.ptr 0 0),(0,vS t)],[(2,.box 62 [vB false,.sl (encI (figs (numV t i.1).natAbs))]),(0,.box 62 [vB false,vNil])],[],3,0⟩) (fun i=>t.size-i.1) ⟨0,Nat.zero_le _⟩ ?_ ?_
 ·constructor<;>simp only[go_sem,simprocAttr,decide_eq_true_eq,Int.natCast_zero,numV,Int.natAbs_zero,figs_zero,encI_nil]<;>try ((repeat' apply And.intro)<;>first|rfl|omega|(congr 3; omega)|(congr 2; omega))
 ·rintro⟨i,hi⟩
  simp only
  by_cases hl:i<t.size
  ·have d:=h i hl (Nat.zero_le _)
   unfold isD at d
   have nn:=numV_nn h hi
   have fg:=numV_fg h hi
   have nn1:=numV_nn h (i:=i+1) (by omega)
   have ew:IntKind.u8.wrap (bt t i-48)=bt t i-48:=by rw[IntKind.wrap_u8]; omega
   have ew2:IntKind.i64.wrap (bt t i-48)=bt t i-48:=by rw[IntKind.wrap_i64]; omega
   have c2:=mul_rep (j:=i) (k:=1) (numV t i) 10 fg (fg1 (by decide)) (by omega)
   rw[repN_nn nn,repN_nn (show(0:Int)<=10 by decide),repN_nn (by omega)]at c2
   have c3:=of_rep (bt t i-48) (by unfold fits; omega)
   rw[repN_nn (by omega)]at c3
   have c4:=add_rep (numV t i*10) (bt t i-48) ((fg.mul (fg1 (z:=10) (by decide))).sm (by omega)) ((fg1 (by omega)).sm (by decide))
   rw[repN_nn (by omega),repN_nn (by omega),repN_nn (by rw[numV]at nn1; exact nn1)]at c4
   simp -implicitDefEqProofs (disch:=omega) only[go_sem,simprocAttr,ew,ew2]
   with_reducible refine CallOk.of c1 rfl ?_
   simp -implicitDefEqProofs (disch:=omega) only[go_sem,simprocAttr,ew,ew2]
   with_reducible refine CallOk.of c2 rfl ?_
   simp -implicitDefEqProofs (disch:=omega) only[go_sem,simprocAttr,ew,ew2]
   with_reducible refine CallOk.of c3 rfl ?_
   simp -implicitDefEqProofs (disch:=omega) only[go_sem,simprocAttr,ew,ew2]
   with_reducible refine CallOk.of c4 rfl ?_
   simp -implicitDefEqProofs (disch:=omega) only[go_sem,simprocAttr,ew,ew2]
   refine⟨⟨i+1,hl⟩,by simp only; omega,?_⟩
   simp only[numV]
   constructor<;>simp only[go_sem,simprocAttr,decide_eq_true_eq,Int.natCast_add,Int.natCast_one]<;>try ((repeat' apply And.intro)<;>first|rfl|omega|(congr 3; omega)|(congr 2; omega))
  ·have hi':i=t.size:=by omega
   subst hi'
   simp -implicitDefEqProofs (disch:=omega) only[go_sem,simprocAttr]
def pC (s:ByteArray):Int:=if formP s then(if fits (zOf s) then 0 else 4) else 1
def pV (s:ByteArray):Int:=if pC s=0 then zOf s else 0
theorem pC_0 {s:ByteArray}(h:formP s)(k:fits (zOf s)):pC s=0:=by rw[pC,if_pos h,if_pos k]
theorem pC_4 {s:ByteArray}(h:formP s)(k:¬fits (zOf s)):pC s=4:=by rw[pC,if_pos h,if_neg k]
theorem pC_1 {s:ByteArray}(h:¬formP s):pC s=1:=by rw[pC,if_neg h]
theorem pV_0 {s:ByteArray}(h:pC s=0):pV s=zOf s:=by rw[pV,if_pos h]
theorem pV_n {s:ByteArray}(h:pC s≠0):pV s=0:=by rw[pV,if_neg h]
theorem repN_zero:repN 0 = .agg [vB false,.sl []]:=by unfold repN; rw[Int.natAbs_zero,figs_zero]; rfl
set_option maxHeartbeats 4000000 in
theorem rparse_ok (s:ByteArray)(hs:s.size<=8000):Ok Tryz.prog 38 [vS s] (.tup [repN (pV s),vI (pC s)]):=by
 have c0:=rform_ok s (by omega)
 refine Ok.of_pwp (by kernel_rfl) Tryz.func38 rfl (by kernel_rfl) (by kernel_rfl) ?_
 by_cases hf:formP s
 ·have h0:fromF s<s.size:=hf.1
  have c1:=number_ok (digS s) (digS_all hf) (by rw[digS_size hf]; omega)
  have fg:=numV_fg (digS_all hf) (Nat.le_refl _)
  have hz:=digS_size hf
  rw[decide_eq_true hf]at c0
  simp -implicitDefEqProofs (disch:=omega) only[go_sem,simprocAttr]
  with_reducible refine CallOk.of c0 rfl ?_
  by_cases hb0:bt s 0=45
  ·have e1:digS s=s.extract 1 s.size:=by unfold digS; rw[if_pos hb0]
   have e2:zOf s = -(numV (digS s) (digS s).size):=by unfold zOf; rw[if_pos hb0]
   have c2:=neg_rep (numV (digS s) (digS s).size) (fg.sm (by omega))
   have c3:=fits_rep (zOf s) (by rw[e2]; exact fg.neg.sm (by omega))
   rw[<-e2]at c2
   rw[e1]at c1
   rw[e1]at c2
   unfold repN at c1 c2 c3
   simp -implicitDefEqProofs (disch:=omega) only[go_sem,simprocAttr,hb0]
   with_reducible refine CallOk.of c1 rfl ?_
   simp -implicitDefEqProofs (disch:=omega) only[go_sem,simprocAttr,hb0]
   with_reducible refine CallOk.of c2 rfl ?_
   simp -implicitDefEqProofs (disch:=omega) only[go_sem,simprocAttr,hb0]
   with_reducible refine CallOk.of c3 rfl ?_
   by_cases hk:fits (zOf s)
   ·rw[pV_0 (pC_0 hf hk),pC_0 hf hk,decide_eq_true hk]
    simp -implicitDefEqProofs (disch:=omega) only[go_sem,simprocAttr,hb0]
    rfl
   ·rw[pV_n (by rw[pC_4 hf hk]; decide),pC_4 hf hk,decide_eq_false hk,repN_zero]
    simp -implicitDefEqProofs (disch:=omega) only[go_sem,simprocAttr,hb0]
  ·have e1:digS s=s:=by unfold digS; rw[if_neg hb0]
   have e2:zOf s=numV (digS s) (digS s).size:=by unfold zOf; rw[if_neg hb0]
   have c3:=fits_rep (zOf s) (by rw[e2]; exact fg.sm (by omega))
   rw[<-e2,e1]at c1
   unfold repN at c1 c3
   simp -implicitDefEqProofs (disch:=omega) only[go_sem,simprocAttr,hb0]
   with_reducible refine CallOk.of c1 rfl ?_
   simp -implicitDefEqProofs (disch:=omega) only[go_sem,simprocAttr,hb0]
   with_reducible refine CallOk.of c3 rfl ?_
   by_cases hk:fits (zOf s)
   ·rw[pV_0 (pC_0 hf hk),pC_0 hf hk,decide_eq_true hk]
    simp -implicitDefEqProofs (disch:=omega) only[go_sem,simprocAttr,hb0]
    rfl
   ·rw[pV_n (by rw[pC_4 hf hk]; decide),pC_4 hf hk,decide_eq_false hk,repN_zero]
    simp -implicitDefEqProofs (disch:=omega) only[go_sem,simprocAttr,hb0]
 ·rw[decide_eq_false hf]at c0
  rw[pV_n (by rw[pC_1 hf]; decide),pC_1 hf,repN_zero]
  simp -implicitDefEqProofs (disch:=omega) only[go_sem,simprocAttr]
  with_reducible refine CallOk.of c0 rfl ?_
  simp -implicitDefEqProofs (disch:=omega) only[go_sem,simprocAttr]
end Go.Proofs.YtcgmpcbkndpmbaaGreatDoor

end
section
open Go Go.Proofs Go.Pw
namespace Go.Proofs.YtcgmpcbkndpmbaaGreatDoor
set_option maxRecDepth 4000
set_option linter.unusedVariables false
set_option linter.unusedSimpArgs false
attribute [local go_sem] Int.toNat_natCast Int.toNat_one Int.toNat_zero Nat.le_refl Tryz.results109 Tryz.results93 str_eq
theorem trimDig_ok (s:ByteArray):Ok Tryz.prog 121 [vS s,vS ⟨#[45]⟩] (vS (digS s)):=by
 have h:=trimP_ok s ⟨#[45]⟩
 have e:=trim_dig s
 rw[<-e]
 exact h
theorem form_dig (s:ByteArray):formP s↔0<(digS s).size/\¬(bt (digS s) 0=48/\1<(digS s).size)/\allD (digS s) 0:=by
 unfold formP digS fromF
 by_cases h0:s.size=0
 ·rw[if_neg (by omega)]
  constructor
  ·intro h; have:=h.1; omega
  ·intro h
   have:=h.1
   split at this
   ·simp at this; omega
   ·omega
 ·by_cases hb:bt s 0=45
  ·rw[if_pos ⟨by omega,hb⟩,if_pos hb]
   have hz:(s.extract 1 s.size).size=s.size-1:=by simp
   rw[hz]
   by_cases h1:s.size=1
   ·constructor
    ·intro h; have:=h.1; omega
    ·intro h; have:=h.1; omega
   ·have e1:bt (s.extract 1 s.size) 0=bt s (1:Nat):=bt_ext s (a:=1) (b:=s.size) (i:=0) (by omega)
    rw[e1]
    refine⟨fun ⟨h1,h2,h3⟩=>⟨by omega,fun k=>h2 ⟨k.1,by omega⟩,fun j hj _=>?_⟩,fun ⟨h1,h2,h3⟩=>⟨by omega,fun k=>h2 ⟨k.1,by omega⟩,fun j hj hk=>?_⟩⟩
    ·rw[bt_ext s (by omega)]; exact h3 (1+j) (by omega) (by omega)
    ·have:=h3 (j-1) (by omega) (by omega)
     rw[bt_ext s (by omega),show 1+(j-1)=j by omega]at this
     exact this
  ·rw[if_neg (fun k=>hb k.2),if_neg hb]
   exact⟨fun ⟨h1,h2,h3⟩=>⟨h1,fun k=>h2 ⟨k.1,by omega⟩,h3⟩,fun ⟨h1,h2,h3⟩=>⟨h1,fun k=>h2 ⟨k.1,by omega⟩,h3⟩⟩
def dgB (d:ByteArray):Bool:=decide (0<d.size/\¬(bt d 0=48/\1<d.size)/\allD d 0)
theorem form_dgB (s:ByteArray):decide (formP s)=dgB (digS s):=decide_eq_decide.2 (form_dig s)
theorem digS_le (s:ByteArray):(digS s).size<=s.size:=by
 unfold digS
 split
 ·rw[ByteArray.size_extract]; omega
 ·exact Nat.le_refl _
theorem dec_lo {s:ByteArray}{i:Nat}(h:i<s.size)(hb:bt s i<128):Utf8.decode s i=((bt s i).toNat,1):=by
 have e:bt s i=((s[i]'h).toNat:Int):=bt_list (by rw[Array.getElem?_toList]; exact Array.getElem?_eq_getElem h)
 rw[decode_ascii s i h (by omega),e]; rfl
theorem dec_hi {s:ByteArray}{i:Nat}(hb:128<=bt s i):128<=(Utf8.decode s i).1:=by
 unfold bt at hb
 rw[Int.toNat_natCast]at hb
 rw[Lib.decode_N]
 generalize (s.data.toList.getD i 0).toNat=x at *
 unfold Lib.decodeN
 rw[if_neg (by omega)]
 repeat' split
 all_goals first|omega|(simp only; omega)
theorem form_ok (s:ByteArray)(hs:s.size<=1000000):Ok Tryz.prog 109 [vS s] (vB (decide (formP s))):=by
 have c0:=trimDig_ok s
 have hz:(digS s).size<=1000000:=Nat.le_trans (digS_le s) hs
 rw[form_dgB]
 generalize digS s=d at *
 refine Ok.of_pwp (by kernel_rfl) Tryz.func109 rfl (by kernel_rfl) (by kernel_rfl) ?_
 by_cases h0:d.size=0
 ·have he:decide (d.data.toList=[])=true:=decide_eq_true (List.eq_nil_of_length_eq_zero (by rw[Array.length_toList]; exact h0))
  have e:dgB d=false:=decide_eq_false (fun h=>by have:=h.1; omega)
  rw[e]
  simp -implicitDefEqProofs (disch:=omega) only[go_sem,simprocAttr,he]
  with_reducible refine CallOk.of c0 rfl ?_
  simp -implicitDefEqProofs (disch:=omega) only[go_sem,simprocAttr,he]
 have he:decide (d.data.toList=[])=false:=decide_eq_false (fun h=>h0 (by have:=congrArg List.length h; rw[Array.length_toList]at this; exact this))
 have b0:=bt_rng d 0
 by_cases hz1:bt d 0=48/\1<d.size
 ·have hd0:=hz1.1
  have he2:decide (d.data.toList=[48])=false:=decide_eq_false (fun h=>by
   have:=congrArg List.length h
   rw[Array.length_toList]at this
   have h1:d.size=1:=this
   omega)
  have e:dgB d=false:=decide_eq_false (fun h=>h.2.1 hz1)
  rw[e]
  simp -implicitDefEqProofs (disch:=omega) only[go_sem,simprocAttr,he,he2,hd0]
  with_reducible refine CallOk.of c0 rfl ?_
  simp -implicitDefEqProofs (disch:=omega) only[go_sem,simprocAttr,he,he2,hd0]
 by_cases hd0:bt d 0=48
 ·have h1:d.size=1:=by omega
  have he2:decide (d.data.toList=[48])=true:=decide_eq_true (by
   obtain⟨c,hc⟩:∃c,d.data.toList=[c]:=List.length_eq_one_iff.1 (by rw[Array.length_toList]; exact h1)
   have:=bt_list (s:=d) (i:=0) (c:=c) (by rw[hc]; rfl)
   rw[hc]
   congr 1
   apply UInt8.toNat_inj.1
   have h2:bt d (0:Nat)=48:=hd0
   rw[h2]at this
   show c.toNat=48
   omega)
  simp -implicitDefEqProofs (disch:=omega) only[go_sem,simprocAttr,he,he2,hd0]
  with_reducible refine CallOk.of c0 rfl ?_
  simp -implicitDefEqProofs (disch:=omega) only[go_sem,simprocAttr,he,he2,hd0]
  refine p_loop (ι:={ i:Nat // i<=d.size/\∀j,j<i->0<=j->isD (bt d j) }) (fun i=>⟨[(20,.ptr 16 0)],[(16,.iter d i.1)],[],17,0⟩) (fun i=>d.size-i.1) ⟨0,Nat.zero_le _,fun j h1 h2=>by omega⟩ ?_ ?_
  ·constructor<;>simp only[go_sem,simprocAttr,decide_eq_true_eq]<;>try ((repeat' apply And.intro)<;>first|rfl|omega|(congr 3; omega)|(congr 2; omega))
  ·rintro⟨i,g1,g2⟩
   simp only
   by_cases hi:i<d.size
   ·have hbr:=bt_rng d i
    by_cases hd:isD (bt d i)
    ·have hd':=hd
     unfold isD at hd'
     have ed:=dec_lo hi (by omega)
     simp -implicitDefEqProofs (disch:=omega) only[go_sem,simprocAttr,ed]
     refine⟨⟨i+1,hi,allD_step g2 hd⟩,by simp only; omega,?_⟩
     constructor<;>simp only[go_sem,simprocAttr,decide_eq_true_eq]<;>try ((repeat' apply And.intro)<;>first|rfl|omega|(congr 3; omega)|(congr 2; omega))
    ·have e:dgB d=false:=decide_eq_false (fun k=>hd (k.2.2 i hi (Nat.zero_le _)))
     rw[e]
     unfold isD at hd
     by_cases hlo:bt d i<128
     ·have ed:=dec_lo hi hlo
      by_cases hl:bt d i<48
      ·simp -implicitDefEqProofs (disch:=omega) only[go_sem,simprocAttr,ed]
      ·simp -implicitDefEqProofs (disch:=omega) only[go_sem,simprocAttr,ed]
     ·have ed:=dec_hi (s:=d) (i:=i) (by omega)
      simp -implicitDefEqProofs (disch:=omega) only[go_sem,simprocAttr]
   ·have hi':i=d.size:=by omega
    subst hi'
    have e:dgB d=true:=decide_eq_true ⟨by omega,hz1,fun j h1 h2=>g2 j h1 h2⟩
    rw[e]
    simp -implicitDefEqProofs (disch:=omega) only[go_sem,simprocAttr]
 ·simp -implicitDefEqProofs (disch:=omega) only[go_sem,simprocAttr,he]
  with_reducible refine CallOk.of c0 rfl ?_
  simp -implicitDefEqProofs (disch:=omega) only[go_sem,simprocAttr,he]
  refine p_loop (ι:={ i:Nat // i<=d.size/\∀j,j<i->0<=j->isD (bt d j) }) (fun i=>⟨[(20,.ptr 16 0)],[(16,.iter d i.1)],[],17,0⟩) (fun i=>d.size-i.1) ⟨0,Nat.zero_le _,fun j h1 h2=>by omega⟩ ?_ ?_
  ·constructor<;>simp only[go_sem,simprocAttr,decide_eq_true_eq]<;>try ((repeat' apply And.intro)<;>first|rfl|omega|(congr 3; omega)|(congr 2; omega))
  ·rintro⟨i,g1,g2⟩
   simp only
   by_cases hi:i<d.size
   ·have hbr:=bt_rng d i
    by_cases hd:isD (bt d i)
    ·have hd':=hd
     unfold isD at hd'
     have ed:=dec_lo hi (by omega)
     simp -implicitDefEqProofs (disch:=omega) only[go_sem,simprocAttr,ed]
     refine⟨⟨i+1,hi,allD_step g2 hd⟩,by simp only; omega,?_⟩
     constructor<;>simp only[go_sem,simprocAttr,decide_eq_true_eq]<;>try ((repeat' apply And.intro)<;>first|rfl|omega|(congr 3; omega)|(congr 2; omega))
    ·have e:dgB d=false:=decide_eq_false (fun k=>hd (k.2.2 i hi (Nat.zero_le _)))
     rw[e]
     unfold isD at hd
     by_cases hlo:bt d i<128
     ·have ed:=dec_lo hi hlo
      by_cases hl:bt d i<48
      ·simp -implicitDefEqProofs (disch:=omega) only[go_sem,simprocAttr,ed]
      ·simp -implicitDefEqProofs (disch:=omega) only[go_sem,simprocAttr,ed]
     ·have ed:=dec_hi (s:=d) (i:=i) (by omega)
      simp -implicitDefEqProofs (disch:=omega) only[go_sem,simprocAttr]
   ·have hi':i=d.size:=by omega
    subst hi'
    have e:dgB d=true:=decide_eq_true ⟨by omega,hz1,fun j h1 h2=>g2 j h1 h2⟩
    rw[e]
    simp -implicitDefEqProofs (disch:=omega) only[go_sem,simprocAttr]
theorem parse_ok (s:ByteArray)(hs:s.size<=1000000):Ok Tryz.prog 93 [vS s] (two (pV s) (pC s)):=by
 have c0:=form_ok s hs
 refine Ok.of_pwp (by kernel_rfl) Tryz.func93 rfl (by kernel_rfl) (by kernel_rfl) ?_
 by_cases hf:formP s
 ·rw[decide_eq_true hf]at c0
  simp -implicitDefEqProofs (disch:=omega) only[go_sem,simprocAttr]
  with_reducible refine CallOk.of c0 rfl ?_
  by_cases hk:fits (zOf s)
  ·have c1:=parseInt_yes s hs hf hk
   rw[pV_0 (pC_0 hf hk),pC_0 hf hk]
   simp -implicitDefEqProofs (disch:=omega) only[go_sem,simprocAttr]
   with_reducible refine CallOk.of c1 rfl ?_
   simp -implicitDefEqProofs (disch:=omega) only[go_sem,simprocAttr]
  ·have c1:=parseInt_no s hs hf hk
   rw[pV_n (by rw[pC_4 hf hk]; decide),pC_4 hf hk]
   simp -implicitDefEqProofs (disch:=omega) only[go_sem,simprocAttr]
   with_reducible refine CallOk.of c1 rfl ?_
   simp -implicitDefEqProofs (disch:=omega) only[go_sem,simprocAttr]
 ·rw[decide_eq_false hf]at c0
  rw[pV_n (by rw[pC_1 hf]; decide),pC_1 hf]
  simp -implicitDefEqProofs (disch:=omega) only[go_sem,simprocAttr]
  with_reducible refine CallOk.of c0 rfl ?_
  simp -implicitDefEqProofs (disch:=omega) only[go_sem,simprocAttr]
def sOf (n:Int):ByteArray:=⟨(Lib.itoa n).toArray⟩
end Go.Proofs.YtcgmpcbkndpmbaaGreatDoor

end
section
open Go Go.Proofs Go.Pw Go.RowKit
namespace Go.Proofs.YtcgmpcbkndpmbaaGreatDoor
set_option maxRecDepth 4000
set_option linter.unusedVariables false
set_option linter.unusedSimpArgs false
attribute [local go_sem] Nat.le_refl Tryz.results72
abbrev dgS:ByteArray:=⟨#[48,49,50,51,52,53,54,55,56,57]⟩
abbrev mnS:ByteArray:=⟨#[45]⟩
abbrev zrS:ByteArray:=⟨#[48]⟩
abbrev dtS:ByteArray:=⟨#[46]⟩
abbrev eeS:ByteArray:=⟨#[101,69]⟩
abbrev pmS:ByteArray:=⟨#[43,45]⟩
def oneP (s some:ByteArray)(i:Nat):Nat:=if hasF s some i=true then i+1 else i
theorem oneP_le {s some:ByteArray}{i:Nat}(hi:i<=s.size):i<=oneP s some i/\oneP s some i<=s.size:=by
 unfold oneP
 split
 ·rename_i h; have:=hasF_lt h; omega
 ·omega
def numI (s:ByteArray)(a:Nat):Bool×Nat:=if hasF s zrS a=true then(true,a+1) else(!decide (passF s dgS a=a),passF s dgS a)
def numD (s:ByteArray)(b:Nat):Bool×Nat:=if hasF s dtS b=true then(!decide (passF s dgS (b+1)=b+1),passF s dgS (b+1)) else(true,b)
def numE (s:ByteArray)(b:Nat):Bool×Nat:=if hasF s eeS b=true then(!decide (passF s dgS (oneP s pmS (b+1))=oneP s pmS (b+1)),passF s dgS (oneP s pmS (b+1))) else(true,b)
def numT (s:ByteArray)(i b q:Nat):Int×Int×Nat:=if pC (s.extract i b)=0/\b=q then(0,pV (s.extract i b),q) else(4,0,i)
def numX (s:ByteArray)(i b:Nat)(c:Bool×Nat):Int×Int×Nat:=if c.1=true then(if(numE s c.2).1=true then numT s i b (numE s c.2).2 else(1,0,(numE s c.2).2)) else(1,0,c.2)
def numY (s:ByteArray)(i:Nat)(b:Bool×Nat):Int×Int×Nat:=if b.1=true then numX s i b.2 (numD s b.2) else(1,0,b.2)
def numF (s:ByteArray)(i:Nat):Int×Int×Nat:=numY s i (numI s (oneP s mnS i))
set_option maxHeartbeats 16000000 in
theorem number_ok5 (s:ByteArray)(i:Nat)(hi:i<=s.size)(hs:s.size<=1000000):Reads 72 s i (numF s i).2.2 (tkC 0 ByteArray.empty 0 i 0) (tkC 3 ByteArray.empty (numF s i).2.1 i 0) (numF s i).1:=by
 unfold numF
 have ha:=oneP_le (some:=mnS) hi
 have c1:=one_ok s mnS i hi hs
 change Lexes _ _ _ _ (oneP s mnS i) _ at c1
 refine OkI.of_pwp (by kernel_rfl) Tryz.func72 rfl (by kernel_rfl) (by kernel_rfl) ?_
 simp -implicitDefEqProofs (disch:=omega) only[go_sem,simprocAttr,dropH,inL]
 refine CallOk.ofI (c1.at (st:=⟨[],_,_,_,_⟩) 0 rfl rfl (by simp) (by rfl)) rfl rfl rfl rfl ?_
 rintro r st' ⟨rfl,nt1,q1,rfl⟩
 generalize oneP s mnS i=a at *
 have c2:=one_ok s zrS a (by omega) hs
 simp -implicitDefEqProofs (disch:=omega) only[go_sem,simprocAttr,dropH,inL]
 refine CallOk.ofI (c2.at (st:=⟨[],_,_,_,_⟩) 0 rfl rfl (by simp) (by rfl)) rfl rfl rfl rfl ?_
 rintro r st' ⟨rfl,nt1,q1,rfl⟩
 generalize hF:numY s i (numI s a)=F
 cases h2:hasF s zrS a with
 |true=>
  have hl2:=hasF_lt h2
  simp -implicitDefEqProofs (disch:=omega) only[go_sem,simprocAttr,dropH,inL,h2]
  have hT0:((a:Int)+1)=((a+1:Nat):Int):=rfl
  generalize hb0:a+1=b at *
  have c5:=one_ok s dtS b (by omega) hs
  simp -implicitDefEqProofs (disch:=omega) only[go_sem,simprocAttr,dropH,inL]
  refine CallOk.ofI (c5.at (st:=⟨[],_,_,_,_⟩) 0 rfl rfl (by simp) (by rfl)) rfl rfl rfl rfl ?_
  rintro r st' ⟨rfl,nt1,q1,rfl⟩
  cases h5:hasF s dtS b with
  |false=>
   simp -implicitDefEqProofs (disch:=omega) only[go_sem,simprocAttr,dropH,inL,h5]
   have c7:=one_ok s eeS b (by omega) hs
   simp -implicitDefEqProofs (disch:=omega) only[go_sem,simprocAttr,dropH,inL]
   refine CallOk.ofI (c7.at (st:=⟨[],_,_,_,_⟩) 0 rfl rfl (by simp) (by rfl)) rfl rfl rfl rfl ?_
   rintro r st' ⟨rfl,nt1,q1,rfl⟩
   cases h7:hasF s eeS b with
   |false=>
    simp -implicitDefEqProofs (disch:=omega) only[go_sem,simprocAttr,dropH,inL,h7]
    have cp:=parse_ok (s.extract i b) (by rw[ByteArray.size_extract]; omega)
    simp -implicitDefEqProofs (disch:=omega) only[go_sem,simprocAttr,dropH,inL]
    with_reducible refine CallOk.of cp rfl ?_
    by_cases hz:pC (s.extract i b)=0
    ·simp -implicitDefEqProofs (disch:=omega) only[go_sem,simprocAttr,dropH,inL,hz]
     have hv:F=(0,pV (s.extract i b),b):=by rw[<-hF]; simp[numY,numI,numX,numD,numE,numT,h2,hb0,h5,h7,hz]
     rw[hv]
     refine⟨⟨[],[(0,.box 94 [vS s,vI b]),(1,.box 67 (tkC 3 ByteArray.empty (pV (s.extract i b)) i 0))],[],2,0⟩,⟨rfl,rfl,rfl,rfl⟩,?_⟩
     constructor<;>simp only[go_sem,simprocAttr,decide_eq_true_eq,Int.natCast_add,Int.natCast_one]<;>try ((repeat' apply And.intro)<;>first|rfl|omega|(congr 3; omega)|(congr 2; omega))
    ·simp -implicitDefEqProofs (disch:=omega) only[go_sem,simprocAttr,dropH,inL,decide_eq_false hz]
     have hv:F=(4,0,i):=by rw[<-hF]; simp[numY,numI,numX,numD,numE,numT,h2,hb0,h5,h7,hz]
     rw[hv]
     refine⟨⟨[],[(0,.box 94 [vS s,vI i]),(1,.box 67 (tkC 3 ByteArray.empty (0) i 0))],[],2,0⟩,⟨rfl,rfl,rfl,rfl⟩,?_⟩
     constructor<;>simp only[go_sem,simprocAttr,decide_eq_true_eq,Int.natCast_add,Int.natCast_one]<;>try ((repeat' apply And.intro)<;>first|rfl|omega|(congr 3; omega)|(congr 2; omega))
   |true=>
    have hl7:=hasF_lt h7
    have hp:=oneP_le (s:=s) (some:=pmS) (i:=b+1) (by omega)
    have c8:=one_ok s pmS (b+1) (by omega) hs
    change Lexes _ _ _ _ (oneP s pmS (b+1)) _ at c8
    simp -implicitDefEqProofs (disch:=omega) only[go_sem,simprocAttr,dropH,inL,h7]
    refine CallOk.ofI (c8.at (st:=⟨[],_,_,_,_⟩) 0 rfl rfl (by simp) (by rfl)) rfl rfl rfl rfl ?_
    rintro r st' ⟨rfl,nt1,q1,rfl⟩
    generalize he:oneP s pmS (b+1)=e at *
    have c9:=pass_ok s dgS e (by omega) hs
    have hq9:=passF_le s dgS e (by omega)
    simp -implicitDefEqProofs (disch:=omega) only[go_sem,simprocAttr,dropH,inL]
    refine CallOk.ofI (c9.at (st:=⟨[],_,_,_,_⟩) 0 rfl rfl (by simp) (by rfl)) rfl rfl rfl rfl ?_
    rintro r st' ⟨rfl,nt1,q1,rfl⟩
    generalize hq0:passF s dgS e=q at *
    by_cases h9:q=e
    ·simp -implicitDefEqProofs (disch:=omega) only[go_sem,simprocAttr,dropH,inL,decide_eq_true (show(q:Int)-(e:Int)=0 by omega)]
     have hv:F=(1,0,q):=by rw[<-hF]; simp[numY,numI,numX,numD,numE,numT,h2,hb0,h5,h7,he,hq0,eq_true h9]
     rw[hv]
     refine⟨⟨[],[(0,.box 94 [vS s,vI q]),(1,.box 67 (tkC 3 ByteArray.empty (0) i 0))],[],2,0⟩,⟨rfl,rfl,rfl,rfl⟩,?_⟩
     constructor<;>simp only[go_sem,simprocAttr,decide_eq_true_eq,Int.natCast_add,Int.natCast_one]<;>try ((repeat' apply And.intro)<;>first|rfl|omega|(congr 3; omega)|(congr 2; omega))
    ·simp -implicitDefEqProofs (disch:=omega) only[go_sem,simprocAttr,dropH,inL,decide_eq_false (show ¬(q:Int)-(e:Int)=0 by omega)]
     have cp:=parse_ok (s.extract i b) (by rw[ByteArray.size_extract]; omega)
     simp -implicitDefEqProofs (disch:=omega) only[go_sem,simprocAttr,dropH,inL]
     with_reducible refine CallOk.of cp rfl ?_
     by_cases hz:pC (s.extract i b)=0
     ·have hq:¬b=q:=by omega
      simp -implicitDefEqProofs (disch:=omega) only[go_sem,simprocAttr,dropH,inL,hz,decide_eq_false (show ¬(b:Int)=(q:Int) by omega)]
      have hv:F=(4,0,i):=by rw[<-hF]; simp[numY,numI,numX,numD,numE,numT,h2,hb0,h5,h7,he,hq0,h9,hz,hq]
      rw[hv]
      refine⟨⟨[],[(0,.box 94 [vS s,vI i]),(1,.box 67 (tkC 3 ByteArray.empty (0) i 0))],[],2,0⟩,⟨rfl,rfl,rfl,rfl⟩,?_⟩
      constructor<;>simp only[go_sem,simprocAttr,decide_eq_true_eq,Int.natCast_add,Int.natCast_one]<;>try ((repeat' apply And.intro)<;>first|rfl|omega|(congr 3; omega)|(congr 2; omega))
     ·simp -implicitDefEqProofs (disch:=omega) only[go_sem,simprocAttr,dropH,inL,decide_eq_false hz]
      have hv:F=(4,0,i):=by rw[<-hF]; simp[numY,numI,numX,numD,numE,numT,h2,hb0,h5,h7,he,hq0,h9,hz]
      rw[hv]
      refine⟨⟨[],[(0,.box 94 [vS s,vI i]),(1,.box 67 (tkC 3 ByteArray.empty (0) i 0))],[],2,0⟩,⟨rfl,rfl,rfl,rfl⟩,?_⟩
      constructor<;>simp only[go_sem,simprocAttr,decide_eq_true_eq,Int.natCast_add,Int.natCast_one]<;>try ((repeat' apply And.intro)<;>first|rfl|omega|(congr 3; omega)|(congr 2; omega))
  |true=>
   have hl5:=hasF_lt h5
   have c6:=pass_ok s dgS (b+1) (by omega) hs
   have hq6:=passF_le s dgS (b+1) (by omega)
   simp -implicitDefEqProofs (disch:=omega) only[go_sem,simprocAttr,dropH,inL,h5]
   refine CallOk.ofI (c6.at (st:=⟨[],_,_,_,_⟩) 0 rfl rfl (by simp) (by rfl)) rfl rfl rfl rfl ?_
   rintro r st' ⟨rfl,nt1,q1,rfl⟩
   generalize hc0:passF s dgS (b+1)=c at *
   by_cases h6:c=b+1
   ·simp -implicitDefEqProofs (disch:=omega) only[go_sem,simprocAttr,dropH,inL,decide_eq_true (show(c:Int)-((b:Int)+1)=0 by omega)]
    have hv:F=(1,0,c):=by rw[<-hF]; simp[numY,numI,numX,numD,numE,numT,h2,hb0,h5,hc0,eq_true h6]
    rw[hv]
    refine⟨⟨[],[(0,.box 94 [vS s,vI c]),(1,.box 67 (tkC 3 ByteArray.empty (0) i 0))],[],2,0⟩,⟨rfl,rfl,rfl,rfl⟩,?_⟩
    constructor<;>simp only[go_sem,simprocAttr,decide_eq_true_eq,Int.natCast_add,Int.natCast_one]<;>try ((repeat' apply And.intro)<;>first|rfl|omega|(congr 3; omega)|(congr 2; omega))
   ·simp -implicitDefEqProofs (disch:=omega) only[go_sem,simprocAttr,dropH,inL,decide_eq_false (show ¬(c:Int)-((b:Int)+1)=0 by omega)]
    have c7:=one_ok s eeS c (by omega) hs
    simp -implicitDefEqProofs (disch:=omega) only[go_sem,simprocAttr,dropH,inL]
    refine CallOk.ofI (c7.at (st:=⟨[],_,_,_,_⟩) 0 rfl rfl (by simp) (by rfl)) rfl rfl rfl rfl ?_
    rintro r st' ⟨rfl,nt1,q1,rfl⟩
    cases h7:hasF s eeS c with
    |false=>
     simp -implicitDefEqProofs (disch:=omega) only[go_sem,simprocAttr,dropH,inL,h7]
     have cp:=parse_ok (s.extract i b) (by rw[ByteArray.size_extract]; omega)
     simp -implicitDefEqProofs (disch:=omega) only[go_sem,simprocAttr,dropH,inL]
     with_reducible refine CallOk.of cp rfl ?_
     by_cases hz:pC (s.extract i b)=0
     ·have hq:¬b=c:=by omega
      simp -implicitDefEqProofs (disch:=omega) only[go_sem,simprocAttr,dropH,inL,hz,decide_eq_false (show ¬(b:Int)=(c:Int) by omega)]
      have hv:F=(4,0,i):=by rw[<-hF]; simp[numY,numI,numX,numD,numE,numT,h2,hb0,h5,hc0,h6,h7,hz,hq]
      rw[hv]
      refine⟨⟨[],[(0,.box 94 [vS s,vI i]),(1,.box 67 (tkC 3 ByteArray.empty (0) i 0))],[],2,0⟩,⟨rfl,rfl,rfl,rfl⟩,?_⟩
      constructor<;>simp only[go_sem,simprocAttr,decide_eq_true_eq,Int.natCast_add,Int.natCast_one]<;>try ((repeat' apply And.intro)<;>first|rfl|omega|(congr 3; omega)|(congr 2; omega))
     ·simp -implicitDefEqProofs (disch:=omega) only[go_sem,simprocAttr,dropH,inL,decide_eq_false hz]
      have hv:F=(4,0,i):=by rw[<-hF]; simp[numY,numI,numX,numD,numE,numT,h2,hb0,h5,hc0,h6,h7,hz]
      rw[hv]
      refine⟨⟨[],[(0,.box 94 [vS s,vI i]),(1,.box 67 (tkC 3 ByteArray.empty (0) i 0))],[],2,0⟩,⟨rfl,rfl,rfl,rfl⟩,?_⟩
      constructor<;>simp only[go_sem,simprocAttr,decide_eq_true_eq,Int.natCast_add,Int.natCast_one]<;>try ((repeat' apply And.intro)<;>first|rfl|omega|(congr 3; omega)|(congr 2; omega))
    |true=>
     have hl7:=hasF_lt h7
     have hp:=oneP_le (s:=s) (some:=pmS) (i:=c+1) (by omega)
     have c8:=one_ok s pmS (c+1) (by omega) hs
     change Lexes _ _ _ _ (oneP s pmS (c+1)) _ at c8
     simp -implicitDefEqProofs (disch:=omega) only[go_sem,simprocAttr,dropH,inL,h7]
     refine CallOk.ofI (c8.at (st:=⟨[],_,_,_,_⟩) 0 rfl rfl (by simp) (by rfl)) rfl rfl rfl rfl ?_
     rintro r st' ⟨rfl,nt1,q1,rfl⟩
     generalize he:oneP s pmS (c+1)=e at *
     have c9:=pass_ok s dgS e (by omega) hs
     have hq9:=passF_le s dgS e (by omega)
     simp -implicitDefEqProofs (disch:=omega) only[go_sem,simprocAttr,dropH,inL]
     refine CallOk.ofI (c9.at (st:=⟨[],_,_,_,_⟩) 0 rfl rfl (by simp) (by rfl)) rfl rfl rfl rfl ?_
     rintro r st' ⟨rfl,nt1,q1,rfl⟩
     generalize hq0:passF s dgS e=q at *
     by_cases h9:q=e
     ·simp -implicitDefEqProofs (disch:=omega) only[go_sem,simprocAttr,dropH,inL,decide_eq_true (show(q:Int)-(e:Int)=0 by omega)]
      have hv:F=(1,0,q):=by rw[<-hF]; simp[numY,numI,numX,numD,numE,numT,h2,hb0,h5,hc0,h6,h7,he,hq0,eq_true h9]
      rw[hv]
      refine⟨⟨[],[(0,.box 94 [vS s,vI q]),(1,.box 67 (tkC 3 ByteArray.empty (0) i 0))],[],2,0⟩,⟨rfl,rfl,rfl,rfl⟩,?_⟩
      constructor<;>simp only[go_sem,simprocAttr,decide_eq_true_eq,Int.natCast_add,Int.natCast_one]<;>try ((repeat' apply And.intro)<;>first|rfl|omega|(congr 3; omega)|(congr 2; omega))
     ·simp -implicitDefEqProofs (disch:=omega) only[go_sem,simprocAttr,dropH,inL,decide_eq_false (show ¬(q:Int)-(e:Int)=0 by omega)]
      have cp:=parse_ok (s.extract i b) (by rw[ByteArray.size_extract]; omega)
      simp -implicitDefEqProofs (disch:=omega) only[go_sem,simprocAttr,dropH,inL]
      with_reducible refine CallOk.of cp rfl ?_
      by_cases hz:pC (s.extract i b)=0
      ·have hq:¬b=q:=by omega
       simp -implicitDefEqProofs (disch:=omega) only[go_sem,simprocAttr,dropH,inL,hz,decide_eq_false (show ¬(b:Int)=(q:Int) by omega)]
       have hv:F=(4,0,i):=by rw[<-hF]; simp[numY,numI,numX,numD,numE,numT,h2,hb0,h5,hc0,h6,h7,he,hq0,h9,hz,hq]
       rw[hv]
       refine⟨⟨[],[(0,.box 94 [vS s,vI i]),(1,.box 67 (tkC 3 ByteArray.empty (0) i 0))],[],2,0⟩,⟨rfl,rfl,rfl,rfl⟩,?_⟩
       constructor<;>simp only[go_sem,simprocAttr,decide_eq_true_eq,Int.natCast_add,Int.natCast_one]<;>try ((repeat' apply And.intro)<;>first|rfl|omega|(congr 3; omega)|(congr 2; omega))
      ·simp -implicitDefEqProofs (disch:=omega) only[go_sem,simprocAttr,dropH,inL,decide_eq_false hz]
       have hv:F=(4,0,i):=by rw[<-hF]; simp[numY,numI,numX,numD,numE,numT,h2,hb0,h5,hc0,h6,h7,he,hq0,h9,hz]
       rw[hv]
       refine⟨⟨[],[(0,.box 94 [vS s,vI i]),(1,.box 67 (tkC 3 ByteArray.empty (0) i 0))],[],2,0⟩,⟨rfl,rfl,rfl,rfl⟩,?_⟩
       constructor<;>simp only[go_sem,simprocAttr,decide_eq_true_eq,Int.natCast_add,Int.natCast_one]<;>try ((repeat' apply And.intro)<;>first|rfl|omega|(congr 3; omega)|(congr 2; omega))
 |false=>
  have c4:=pass_ok s dgS a (by omega) hs
  have hq4:=passF_le s dgS a (by omega)
  simp -implicitDefEqProofs (disch:=omega) only[go_sem,simprocAttr,dropH,inL,h2]
  refine CallOk.ofI (c4.at (st:=⟨[],_,_,_,_⟩) 0 rfl rfl (by simp) (by rfl)) rfl rfl rfl rfl ?_
  rintro r st' ⟨rfl,nt1,q1,rfl⟩
  generalize hb0:passF s dgS a=b at *
  by_cases h4:b=a
  ·simp -implicitDefEqProofs (disch:=omega) only[go_sem,simprocAttr,dropH,inL,decide_eq_true (show(b:Int)-(a:Int)=0 by omega)]
   have hv:F=(1,0,b):=by rw[<-hF]; simp[numY,numI,numX,numD,numE,numT,h2,hb0,eq_true h4]
   rw[hv]
   refine⟨⟨[],[(0,.box 94 [vS s,vI b]),(1,.box 67 (tkC 3 ByteArray.empty (0) i 0))],[],2,0⟩,⟨rfl,rfl,rfl,rfl⟩,?_⟩
   constructor<;>simp only[go_sem,simprocAttr,decide_eq_true_eq,Int.natCast_add,Int.natCast_one]<;>try ((repeat' apply And.intro)<;>first|rfl|omega|(congr 3; omega)|(congr 2; omega))
  ·simp -implicitDefEqProofs (disch:=omega) only[go_sem,simprocAttr,dropH,inL,decide_eq_false (show ¬(b:Int)-(a:Int)=0 by omega)]
   have c5:=one_ok s dtS b (by omega) hs
   simp -implicitDefEqProofs (disch:=omega) only[go_sem,simprocAttr,dropH,inL]
   refine CallOk.ofI (c5.at (st:=⟨[],_,_,_,_⟩) 0 rfl rfl (by simp) (by rfl)) rfl rfl rfl rfl ?_
   rintro r st' ⟨rfl,nt1,q1,rfl⟩
   cases h5:hasF s dtS b with
   |false=>
    simp -implicitDefEqProofs (disch:=omega) only[go_sem,simprocAttr,dropH,inL,h5]
    have c7:=one_ok s eeS b (by omega) hs
    simp -implicitDefEqProofs (disch:=omega) only[go_sem,simprocAttr,dropH,inL]
    refine CallOk.ofI (c7.at (st:=⟨[],_,_,_,_⟩) 0 rfl rfl (by simp) (by rfl)) rfl rfl rfl rfl ?_
    rintro r st' ⟨rfl,nt1,q1,rfl⟩
    cases h7:hasF s eeS b with
    |false=>
     simp -implicitDefEqProofs (disch:=omega) only[go_sem,simprocAttr,dropH,inL,h7]
     have cp:=parse_ok (s.extract i b) (by rw[ByteArray.size_extract]; omega)
     simp -implicitDefEqProofs (disch:=omega) only[go_sem,simprocAttr,dropH,inL]
     with_reducible refine CallOk.of cp rfl ?_
     by_cases hz:pC (s.extract i b)=0
     ·simp -implicitDefEqProofs (disch:=omega) only[go_sem,simprocAttr,dropH,inL,hz]
      have hv:F=(0,pV (s.extract i b),b):=by rw[<-hF]; simp[numY,numI,numX,numD,numE,numT,h2,hb0,h4,h5,h7,hz]
      rw[hv]
      refine⟨⟨[],[(0,.box 94 [vS s,vI b]),(1,.box 67 (tkC 3 ByteArray.empty (pV (s.extract i b)) i 0))],[],2,0⟩,⟨rfl,rfl,rfl,rfl⟩,?_⟩
      constructor<;>simp only[go_sem,simprocAttr,decide_eq_true_eq,Int.natCast_add,Int.natCast_one]<;>try ((repeat' apply And.intro)<;>first|rfl|omega|(congr 3; omega)|(congr 2; omega))
     ·simp -implicitDefEqProofs (disch:=omega) only[go_sem,simprocAttr,dropH,inL,decide_eq_false hz]
      have hv:F=(4,0,i):=by rw[<-hF]; simp[numY,numI,numX,numD,numE,numT,h2,hb0,h4,h5,h7,hz]
      rw[hv]
      refine⟨⟨[],[(0,.box 94 [vS s,vI i]),(1,.box 67 (tkC 3 ByteArray.empty (0) i 0))],[],2,0⟩,⟨rfl,rfl,rfl,rfl⟩,?_⟩
      constructor<;>simp only[go_sem,simprocAttr,decide_eq_true_eq,Int.natCast_add,Int.natCast_one]<;>try ((repeat' apply And.intro)<;>first|rfl|omega|(congr 3; omega)|(congr 2; omega))
    |true=>
     have hl7:=hasF_lt h7
     have hp:=oneP_le (s:=s) (some:=pmS) (i:=b+1) (by omega)
     have c8:=one_ok s pmS (b+1) (by omega) hs
     change Lexes _ _ _ _ (oneP s pmS (b+1)) _ at c8
     simp -implicitDefEqProofs (disch:=omega) only[go_sem,simprocAttr,dropH,inL,h7]
     refine CallOk.ofI (c8.at (st:=⟨[],_,_,_,_⟩) 0 rfl rfl (by simp) (by rfl)) rfl rfl rfl rfl ?_
     rintro r st' ⟨rfl,nt1,q1,rfl⟩
     generalize he:oneP s pmS (b+1)=e at *
     have c9:=pass_ok s dgS e (by omega) hs
     have hq9:=passF_le s dgS e (by omega)
     simp -implicitDefEqProofs (disch:=omega) only[go_sem,simprocAttr,dropH,inL]
     refine CallOk.ofI (c9.at (st:=⟨[],_,_,_,_⟩) 0 rfl rfl (by simp) (by rfl)) rfl rfl rfl rfl ?_
     rintro r st' ⟨rfl,nt1,q1,rfl⟩
     generalize hq0:passF s dgS e=q at *
     by_cases h9:q=e
     ·simp -implicitDefEqProofs (disch:=omega) only[go_sem,simprocAttr,dropH,inL,decide_eq_true (show(q:Int)-(e:Int)=0 by omega)]
      have hv:F=(1,0,q):=by rw[<-hF]; simp[numY,numI,numX,numD,numE,numT,h2,hb0,h4,h5,h7,he,hq0,eq_true h9]
      rw[hv]
      refine⟨⟨[],[(0,.box 94 [vS s,vI q]),(1,.box 67 (tkC 3 ByteArray.empty (0) i 0))],[],2,0⟩,⟨rfl,rfl,rfl,rfl⟩,?_⟩
      constructor<;>simp only[go_sem,simprocAttr,decide_eq_true_eq,Int.natCast_add,Int.natCast_one]<;>try ((repeat' apply And.intro)<;>first|rfl|omega|(congr 3; omega)|(congr 2; omega))
     ·simp -implicitDefEqProofs (disch:=omega) only[go_sem,simprocAttr,dropH,inL,decide_eq_false (show ¬(q:Int)-(e:Int)=0 by omega)]
      have cp:=parse_ok (s.extract i b) (by rw[ByteArray.size_extract]; omega)
      simp -implicitDefEqProofs (disch:=omega) only[go_sem,simprocAttr,dropH,inL]
      with_reducible refine CallOk.of cp rfl ?_
      by_cases hz:pC (s.extract i b)=0
      ·have hq:¬b=q:=by omega
       simp -implicitDefEqProofs (disch:=omega) only[go_sem,simprocAttr,dropH,inL,hz,decide_eq_false (show ¬(b:Int)=(q:Int) by omega)]
       have hv:F=(4,0,i):=by rw[<-hF]; simp[numY,numI,numX,numD,numE,numT,h2,hb0,h4,h5,h7,he,hq0,h9,hz,hq]
       rw[hv]
       refine⟨⟨[],[(0,.box 94 [vS s,vI i]),(1,.box 67 (tkC 3 ByteArray.empty (0) i 0))],[],2,0⟩,⟨rfl,rfl,rfl,rfl⟩,?_⟩
       constructor<;>simp only[go_sem,simprocAttr,decide_eq_true_eq,Int.natCast_add,Int.natCast_one]<;>try ((repeat' apply And.intro)<;>first|rfl|omega|(congr 3; omega)|(congr 2; omega))
      ·simp -implicitDefEqProofs (disch:=omega) only[go_sem,simprocAttr,dropH,inL,decide_eq_false hz]
       have hv:F=(4,0,i):=by rw[<-hF]; simp[numY,numI,numX,numD,numE,numT,h2,hb0,h4,h5,h7,he,hq0,h9,hz]
       rw[hv]
       refine⟨⟨[],[(0,.box 94 [vS s,vI i]),(1,.box 67 (tkC 3 ByteArray.empty (0) i 0))],[],2,0⟩,⟨rfl,rfl,rfl,rfl⟩,?_⟩
       constructor<;>simp only[go_sem,simprocAttr,decide_eq_true_eq,Int.natCast_add,Int.natCast_one]<;>try ((repeat' apply And.intro)<;>first|rfl|omega|(congr 3; omega)|(congr 2; omega))
   |true=>
    have hl5:=hasF_lt h5
    have c6:=pass_ok s dgS (b+1) (by omega) hs
    have hq6:=passF_le s dgS (b+1) (by omega)
    simp -implicitDefEqProofs (disch:=omega) only[go_sem,simprocAttr,dropH,inL,h5]
    refine CallOk.ofI (c6.at (st:=⟨[],_,_,_,_⟩) 0 rfl rfl (by simp) (by rfl)) rfl rfl rfl rfl ?_
    rintro r st' ⟨rfl,nt1,q1,rfl⟩
    generalize hc0:passF s dgS (b+1)=c at *
    by_cases h6:c=b+1
    ·simp -implicitDefEqProofs (disch:=omega) only[go_sem,simprocAttr,dropH,inL,decide_eq_true (show(c:Int)-((b:Int)+1)=0 by omega)]
     have hv:F=(1,0,c):=by rw[<-hF]; simp[numY,numI,numX,numD,numE,numT,h2,hb0,h4,h5,hc0,eq_true h6]
     rw[hv]
     refine⟨⟨[],[(0,.box 94 [vS s,vI c]),(1,.box 67 (tkC 3 ByteArray.empty (0) i 0))],[],2,0⟩,⟨rfl,rfl,rfl,rfl⟩,?_⟩
     constructor<;>simp only[go_sem,simprocAttr,decide_eq_true_eq,Int.natCast_add,Int.natCast_one]<;>try ((repeat' apply And.intro)<;>first|rfl|omega|(congr 3; omega)|(congr 2; omega))
    ·simp -implicitDefEqProofs (disch:=omega) only[go_sem,simprocAttr,dropH,inL,decide_eq_false (show ¬(c:Int)-((b:Int)+1)=0 by omega)]
     have c7:=one_ok s eeS c (by omega) hs
     simp -implicitDefEqProofs (disch:=omega) only[go_sem,simprocAttr,dropH,inL]
     refine CallOk.ofI (c7.at (st:=⟨[],_,_,_,_⟩) 0 rfl rfl (by simp) (by rfl)) rfl rfl rfl rfl ?_
     rintro r st' ⟨rfl,nt1,q1,rfl⟩
     cases h7:hasF s eeS c with
     |false=>
      simp -implicitDefEqProofs (disch:=omega) only[go_sem,simprocAttr,dropH,inL,h7]
      have cp:=parse_ok (s.extract i b) (by rw[ByteArray.size_extract]; omega)
      simp -implicitDefEqProofs (disch:=omega) only[go_sem,simprocAttr,dropH,inL]
      with_reducible refine CallOk.of cp rfl ?_
      by_cases hz:pC (s.extract i b)=0
      ·have hq:¬b=c:=by omega
       simp -implicitDefEqProofs (disch:=omega) only[go_sem,simprocAttr,dropH,inL,hz,decide_eq_false (show ¬(b:Int)=(c:Int) by omega)]
       have hv:F=(4,0,i):=by rw[<-hF]; simp[numY,numI,numX,numD,numE,numT,h2,hb0,h4,h5,hc0,h6,h7,hz,hq]
       rw[hv]
       refine⟨⟨[],[(0,.box 94 [vS s,vI i]),(1,.box 67 (tkC 3 ByteArray.empty (0) i 0))],[],2,0⟩,⟨rfl,rfl,rfl,rfl⟩,?_⟩
       constructor<;>simp only[go_sem,simprocAttr,decide_eq_true_eq,Int.natCast_add,Int.natCast_one]<;>try ((repeat' apply And.intro)<;>first|rfl|omega|(congr 3; omega)|(congr 2; omega))
      ·simp -implicitDefEqProofs (disch:=omega) only[go_sem,simprocAttr,dropH,inL,decide_eq_false hz]
       have hv:F=(4,0,i):=by rw[<-hF]; simp[numY,numI,numX,numD,numE,numT,h2,hb0,h4,h5,hc0,h6,h7,hz]
       rw[hv]
       refine⟨⟨[],[(0,.box 94 [vS s,vI i]),(1,.box 67 (tkC 3 ByteArray.empty (0) i 0))],[],2,0⟩,⟨rfl,rfl,rfl,rfl⟩,?_⟩
       constructor<;>simp only[go_sem,simprocAttr,decide_eq_true_eq,Int.natCast_add,Int.natCast_one]<;>try ((repeat' apply And.intro)<;>first|rfl|omega|(congr 3; omega)|(congr 2; omega))
     |true=>
      have hl7:=hasF_lt h7
      have hp:=oneP_le (s:=s) (some:=pmS) (i:=c+1) (by omega)
      have c8:=one_ok s pmS (c+1) (by omega) hs
      change Lexes _ _ _ _ (oneP s pmS (c+1)) _ at c8
      simp -implicitDefEqProofs (disch:=omega) only[go_sem,simprocAttr,dropH,inL,h7]
      refine CallOk.ofI (c8.at (st:=⟨[],_,_,_,_⟩) 0 rfl rfl (by simp) (by rfl)) rfl rfl rfl rfl ?_
      rintro r st' ⟨rfl,nt1,q1,rfl⟩
      generalize he:oneP s pmS (c+1)=e at *
      have c9:=pass_ok s dgS e (by omega) hs
      have hq9:=passF_le s dgS e (by omega)
      simp -implicitDefEqProofs (disch:=omega) only[go_sem,simprocAttr,dropH,inL]
      refine CallOk.ofI (c9.at (st:=⟨[],_,_,_,_⟩) 0 rfl rfl (by simp) (by rfl)) rfl rfl rfl rfl ?_
      rintro r st' ⟨rfl,nt1,q1,rfl⟩
      generalize hq0:passF s dgS e=q at *
      by_cases h9:q=e
      ·simp -implicitDefEqProofs (disch:=omega) only[go_sem,simprocAttr,dropH,inL,decide_eq_true (show(q:Int)-(e:Int)=0 by omega)]
       have hv:F=(1,0,q):=by rw[<-hF]; simp[numY,numI,numX,numD,numE,numT,h2,hb0,h4,h5,hc0,h6,h7,he,hq0,eq_true h9]
       rw[hv]
       refine⟨⟨[],[(0,.box 94 [vS s,vI q]),(1,.box 67 (tkC 3 ByteArray.empty (0) i 0))],[],2,0⟩,⟨rfl,rfl,rfl,rfl⟩,?_⟩
       constructor<;>simp only[go_sem,simprocAttr,decide_eq_true_eq,Int.natCast_add,Int.natCast_one]<;>try ((repeat' apply And.intro)<;>first|rfl|omega|(congr 3; omega)|(congr 2; omega))
      ·simp -implicitDefEqProofs (disch:=omega) only[go_sem,simprocAttr,dropH,inL,decide_eq_false (show ¬(q:Int)-(e:Int)=0 by omega)]
       have cp:=parse_ok (s.extract i b) (by rw[ByteArray.size_extract]; omega)
       simp -implicitDefEqProofs (disch:=omega) only[go_sem,simprocAttr,dropH,inL]
       with_reducible refine CallOk.of cp rfl ?_
       by_cases hz:pC (s.extract i b)=0
       ·have hq:¬b=q:=by omega
        simp -implicitDefEqProofs (disch:=omega) only[go_sem,simprocAttr,dropH,inL,hz,decide_eq_false (show ¬(b:Int)=(q:Int) by omega)]
        have hv:F=(4,0,i):=by rw[<-hF]; simp[numY,numI,numX,numD,numE,numT,h2,hb0,h4,h5,hc0,h6,h7,he,hq0,h9,hz,hq]
        rw[hv]
        refine⟨⟨[],[(0,.box 94 [vS s,vI i]),(1,.box 67 (tkC 3 ByteArray.empty (0) i 0))],[],2,0⟩,⟨rfl,rfl,rfl,rfl⟩,?_⟩
        constructor<;>simp only[go_sem,simprocAttr,decide_eq_true_eq,Int.natCast_add,Int.natCast_one]<;>try ((repeat' apply And.intro)<;>first|rfl|omega|(congr 3; omega)|(congr 2; omega))
       ·simp -implicitDefEqProofs (disch:=omega) only[go_sem,simprocAttr,dropH,inL,decide_eq_false hz]
        have hv:F=(4,0,i):=by rw[<-hF]; simp[numY,numI,numX,numD,numE,numT,h2,hb0,h4,h5,hc0,h6,h7,he,hq0,h9,hz]
        rw[hv]
        refine⟨⟨[],[(0,.box 94 [vS s,vI i]),(1,.box 67 (tkC 3 ByteArray.empty (0) i 0))],[],2,0⟩,⟨rfl,rfl,rfl,rfl⟩,?_⟩
        constructor<;>simp only[go_sem,simprocAttr,decide_eq_true_eq,Int.natCast_add,Int.natCast_one]<;>try ((repeat' apply And.intro)<;>first|rfl|omega|(congr 3; omega)|(congr 2; omega))
end Go.Proofs.YtcgmpcbkndpmbaaGreatDoor

end
section
open Go Go.Proofs Go.Pw Go.RowKit
namespace Go.Proofs.YtcgmpcbkndpmbaaGreatDoor
set_option maxRecDepth 4000
set_option linter.unusedVariables false
set_option linter.unusedSimpArgs false
attribute [local go_sem] List.append_nil Nat.le_refl Tryz.results71 dropK_tokS
abbrev qtS:ByteArray:=⟨#[34]⟩
def txtF (s:ByteArray):Nat->Nat->ByteArray->Int×ByteArray×Nat
 |0,i,out=>(1,out,i)
 |f+1,i,out=>
  if hasF s qtS i=true then(0,out,i+1) else
  if i=s.size∨bt s i<32 then(1,out,i) else
  if hasF s bsS i=true then(if(escP s i).2.1=0 then txtF s f (escP s i).2.2 (out++encF (escP s i).1) else((escP s i).2.1,out,(escP s i).2.2)) else
  if(decF (s.extract i s.size)).2=0 then(2,out,i) else txtF s f (i+(decF (s.extract i s.size)).2.toNat) (out++encF (decF (s.extract i s.size)).1)
theorem escP_range (s:ByteArray)(i:Nat)(hi:i<s.size):i<=(escP s i).2.2/\(escP s i).2.2<=s.size/\((escP s i).2.1=0->i+2<=(escP s i).2.2):=by
 unfold escP
 split
 ·rename_i h; have:=hasF_lt h; simp only; omega
 ·split
  ·rename_i h
   have:=hasF_lt h
   have hr:=hex4_range s (i+2) (by omega)
   split
   ·unfold esc2
    split
    ·simp only; omega
    ·split
     ·rename_i h2
      have:=hasF_lt h2.1
      have:=hasF_lt h2.2.1
      have hr2:=hex4_range s ((hexF s 4 (i+2) 0).2.2+2) (by omega)
      simp only; omega
     ·simp only; omega
   ·simp only; omega
  ·simp only; omega
theorem encF_size (n:Int):(encF n).size<=4:=by
 unfold encF
 split
 ·have h:∀m:Nat,(Utf8.encode (m:Int)).size<=4:=fun m=>by
   unfold Utf8.encode
   simp only
   repeat' split
   all_goals exact Nat.le_of_ble_eq_true rfl
  by_cases h0:0<=n
  ·have:=h n.toNat
   rwa [Int.toNat_of_nonneg h0]at this
  ·unfold Utf8.encode
   simp only
   repeat' split
   all_goals exact Nat.le_of_ble_eq_true rfl
 ·decide
theorem heads_builder:Heads 132 2:=⟨by decide,by kernel_rfl⟩
def txtT (s:ByteArray)(i:Nat):Int×ByteArray×Nat:=txtF s (s.size-i) (i+1) ByteArray.empty
def txtC (R:Int×ByteArray×Nat)(i:Nat):List PV:=if R.1=0 then tkC 2 R.2.1 0 i 0 else tkC 2 ByteArray.empty 0 i 0
set_option maxHeartbeats 8000000 in
theorem text_ok6 (s:ByteArray)(i:Nat)(hi:i<s.size)(hs:s.size<=100000):Reads 71 s i (txtT s i).2.2 (tkC 0 ByteArray.empty 0 i 0) (txtC (txtT s i) i) (txtT s i).1:=by
 unfold txtT
 refine OkI.of_pwp (by kernel_rfl) Tryz.func71 rfl (by kernel_rfl) (by kernel_rfl) ?_
 simp -implicitDefEqProofs (disch:=omega) only[go_sem,simprocAttr,dropH,inL]
 generalize hF:txtF s (s.size-i) (i+1) ByteArray.empty=F
 refine p_loop (ι:={ p:Nat×Nat×ByteArray×Nat×Nat // i<p.1/\p.1<=s.size/\p.2.2.1.size<=4*p.1/\p.2.2.2.1<p.2.2.2.2/\∃f,s.size<p.1+f/\txtF s f p.1 p.2.2.1=F }) (fun p=>⟨[(0,.ptr 0 0),(1,.ptr 1 0),(5,.ptr 3 0)],[(0,.box 94 [vS s,vI p.1.1]),(1,.box 67 (tkC 2 ByteArray.empty 0 i 0)),(3,.box 132 [if p.1.2.1=0 then vNP else .ptr 3 0,rowS p.1.2.2.2.1 p.1.2.2.1])],tokS p.1.2.2.2.1 5 p.1.2.2.1,4,p.1.2.2.2.2⟩) (fun p=>s.size+1-p.1.1) ⟨(i+1,0,ByteArray.empty,0,1),by simp only; omega,by simp only; omega,by simp,by simp,⟨s.size-i,by simp only; omega,hF⟩⟩ ?_ ?_
 ·simp only[rowS_0,tokS_0,if_true]
  constructor<;>simp only[go_sem,simprocAttr,decide_eq_true_eq,Int.natCast_add,Int.natCast_one]<;>try ((repeat' apply And.intro)<;>first|rfl|omega|(congr 3; omega)|(congr 2; omega))
 ·rintro⟨⟨j,w,out,k,nt⟩,h1,h2,h3,h4,f,hf,h5⟩
  simp only at h1 h2 h3 h4 hf h5 ⊢
  obtain⟨f,rfl⟩:∃g,f=g+1:=⟨f-1,by omega⟩
  have c1:=one_ok s qtS j h2 (by omega)
  rw[txtF]at h5
  simp -implicitDefEqProofs (disch:=omega) only[go_sem,simprocAttr,dropH,inL]
  refine CallOk.ofI (c1.at (st:=⟨[],_,_,_,_⟩) 0 rfl rfl (by simp) (by rfl)) rfl rfl rfl rfl ?_
  rintro r st' ⟨rfl,nt1,q1,rfl⟩; simp only at q1
  cases hq:hasF s qtS j with
  |true=>
   have hlq:=hasF_lt hq
   rw[if_pos hq]at h5
   subst h5
   simp -implicitDefEqProofs (disch:=omega) only[go_sem,simprocAttr,dropH,inL,hq]
   refine CallOk.ofI (string_at (st:=⟨[],_,_,_,_⟩) (rest:=[]) (T:=132) (s:=out) (a':=if w=0 then vNP else .ptr 3 0) 3 k (by simp) (by simp only at q1 ⊢; omega) (by by_cases hw:w=0<;>simp[hw]) (by rfl) (by rfl) lkp_tokS) rfl rfl rfl rfl ?_
   rintro r st' ⟨rfl,rfl⟩
   simp -implicitDefEqProofs (disch:=omega) only[go_sem,simprocAttr,dropH,inL]
   refine⟨⟨[],[(0,.box 94 [vS s,vI (j+1:Nat)]),(1,.box 67 (tkC 2 out 0 i 0))],[],2,0⟩,⟨rfl,rfl,rfl,rfl⟩,?_⟩
   constructor<;>simp only[go_sem,simprocAttr,decide_eq_true_eq,Int.natCast_add,Int.natCast_one]<;>try ((repeat' apply And.intro)<;>first|rfl|omega|(congr 3; omega)|(congr 2; omega))
  |false=>
   rw[if_neg (by rw[hq]; decide)]at h5
   by_cases he:j=s.size
   ·rw[if_pos (.inl he)]at h5
    subst h5
    simp -implicitDefEqProofs (disch:=omega) only[go_sem,simprocAttr,dropH,inL,hq,decide_eq_true (show(j:Int)=(s.size:Int) by omega)]
    refine⟨⟨[],[(0,.box 94 [vS s,vI j]),(1,.box 67 (tkC 2 ByteArray.empty 0 i 0))],[],2,0⟩,⟨rfl,rfl,rfl,rfl⟩,?_⟩
    constructor<;>simp only[go_sem,simprocAttr,decide_eq_true_eq,Int.natCast_add,Int.natCast_one]<;>try ((repeat' apply And.intro)<;>first|rfl|omega|(congr 3; omega)|(congr 2; omega))
   ·have hj:j<s.size:=by omega
    by_cases hb:bt s j<32
    ·rw[if_pos (.inr hb)]at h5
     subst h5
     simp -implicitDefEqProofs (disch:=omega) only[go_sem,simprocAttr,dropH,inL,hq,decide_eq_false (show ¬(j:Int)=(s.size:Int) by omega),decide_eq_true hb]
     refine⟨⟨[],[(0,.box 94 [vS s,vI j]),(1,.box 67 (tkC 2 ByteArray.empty 0 i 0))],[],2,0⟩,⟨rfl,rfl,rfl,rfl⟩,?_⟩
     constructor<;>simp only[go_sem,simprocAttr,decide_eq_true_eq,Int.natCast_add,Int.natCast_one]<;>try ((repeat' apply And.intro)<;>first|rfl|omega|(congr 3; omega)|(congr 2; omega))
    ·rw[if_neg (fun h=>h.elim he hb)]at h5
     have c2:=has_ok s bsS j h2 (by omega)
     simp -implicitDefEqProofs (disch:=omega) only[go_sem,simprocAttr,dropH,inL,hq,decide_eq_false (show ¬(j:Int)=(s.size:Int) by omega),decide_eq_false hb]
     refine CallOk.ofI (c2.at (st:=⟨[],_,_,_,_⟩) 0 rfl rfl (by simp) (by rfl)) rfl rfl rfl rfl ?_
     rintro r st' ⟨rfl,nt1,q1,rfl⟩; simp only at q1
     cases hbs:hasF s bsS j with
     |true=>
      rw[if_pos hbs]at h5
      have c3:=escape_ok s j hj (by omega)
      have hr:=escP_range s j hj
      generalize escP s j=X at *
      obtain⟨n,er,e⟩:=X
      simp only at hr c3 h5
      simp -implicitDefEqProofs (disch:=omega) only[go_sem,simprocAttr,dropH,inL,hbs]
      refine CallOk.ofI (c3.at (st:=⟨[],_,_,_,_⟩) 0 rfl rfl (by simp) (by rfl)) rfl rfl rfl rfl ?_
      rintro r st' ⟨rfl,nt1,q1,rfl⟩; simp only at q1
      by_cases her:er=0
      ·subst her
       rw[if_pos rfl]at h5
       simp -implicitDefEqProofs (disch:=omega) only[go_sem,simprocAttr,dropH,inL]
       with_reducible refine CallOk.of (encode_ok n) rfl ?_
       simp -implicitDefEqProofs (disch:=omega) only[go_sem,simprocAttr,dropH,inL]
       have hen:=encF_size n
       refine CallOk.ofI (writeS_at (st:=⟨[],_,_,_,_⟩) (rest:=[]) (T:=132) (s:=out) (t:=encF n) (a':=if w=0 then vNP else .ptr 3 0) heads_builder (by rfl) 3 k (by omega) (by simp) (by simp only at q1 ⊢; omega) (by by_cases hw:w=0<;>simp[hw]) (by rfl) lkp_tokS) rfl rfl rfl rfl ?_
       rintro r st' ⟨rfl,k2,nt2,q3,q4,rfl⟩
       have hso:(out++encF n).size=out.size+(encF n).size:=ByteArray.size_append
       simp -implicitDefEqProofs (disch:=omega) only[go_sem,simprocAttr,dropH,inL]
       refine⟨⟨(e,1,out++encF n,k2,nt2),by simp only; omega,hr.2.1,by simp only; omega,q3,f,by simp only; omega,h5⟩,by simp only; omega,?_⟩
       simp only[if_neg (show ¬(1:Nat)=0 by decide)]
       constructor<;>simp only[go_sem,simprocAttr,decide_eq_true_eq,Int.natCast_add,Int.natCast_one]<;>try ((repeat' apply And.intro)<;>first|rfl|omega|(congr 3; omega)|(congr 2; omega))
       ·exact rowS_lt _ _ _ _ q3
       ·exact tokS_weak _ _ _ _ q3
      ·rw[if_neg her]at h5
       subst h5
       have hc:txtC (er,out,e) i=tkC 2 ByteArray.empty 0 i 0:=if_neg her
       rw[hc]
       simp -implicitDefEqProofs (disch:=omega) only[go_sem,simprocAttr,dropH,inL,decide_eq_false her]
       refine⟨⟨[],[(0,.box 94 [vS s,vI e]),(1,.box 67 (tkC 2 ByteArray.empty 0 i 0))],[],2,0⟩,⟨rfl,rfl,rfl,rfl⟩,?_⟩
       constructor<;>simp only[go_sem,simprocAttr,decide_eq_true_eq,Int.natCast_add,Int.natCast_one]<;>try ((repeat' apply And.intro)<;>first|rfl|omega|(congr 3; omega)|(congr 2; omega))
     |false=>
      rw[if_neg (by rw[hbs]; decide)]at h5
      have cd:=decode_ok0 (s.extract j s.size) (by rw[ByteArray.size_extract]; omega)
      have hdt:=decF_tail hj
      have hdp:=dec_pos s j hj
      simp -implicitDefEqProofs (disch:=omega) only[go_sem,simprocAttr,dropH,inL,hbs]
      have hcut:(s.extract j s.size).size<=140737488351232:=by rw[ByteArray.size_extract]; omega
      with_reducible refine CallOk.of cd rfl ?_
      by_cases hm:(decF (s.extract j s.size)).2=0
      ·rw[if_pos hm]at h5
       subst h5
       simp -implicitDefEqProofs (disch:=omega) only[go_sem,simprocAttr,dropH,inL,hm]
       refine⟨⟨[],[(0,.box 94 [vS s,vI j]),(1,.box 67 (tkC 2 ByteArray.empty 0 i 0))],[],2,0⟩,⟨rfl,rfl,rfl,rfl⟩,?_⟩
       constructor<;>simp only[go_sem,simprocAttr,decide_eq_true_eq,Int.natCast_add,Int.natCast_one]<;>try ((repeat' apply And.intro)<;>first|rfl|omega|(congr 3; omega)|(congr 2; omega))
      ·rw[if_neg hm]at h5
       obtain⟨n,mm,hY,hm1,hm2⟩:∃(n:Int) (mm:Nat),decF (s.extract j s.size)=(n,(mm:Int))/\1<=mm/\j+mm<=s.size:=by
        rw[hdt]at hm ⊢
        unfold goodN at hm ⊢
        split
        ·rename_i h; rw[if_pos h]at hm; exact absurd rfl hm
        ·exact⟨_,_,rfl,hdp.1,hdp.2⟩
       rw[hY]at h5 hm
       simp only[Int.toNat_natCast]at h5 hm
       have hen:=encF_size n
       have hmd:decide ((mm:Int)=0)=false:=decide_eq_false hm
       simp -implicitDefEqProofs (disch:=omega) only[go_sem,simprocAttr,dropH,inL,hY,hmd]
       with_reducible refine CallOk.of (encode_ok n) rfl ?_
       simp -implicitDefEqProofs (disch:=omega) only[go_sem,simprocAttr,dropH,inL]
       refine CallOk.ofI (writeS_at (st:=⟨[],_,_,_,_⟩) (rest:=[]) (T:=132) (s:=out) (t:=encF n) (a':=if w=0 then vNP else .ptr 3 0) heads_builder (by rfl) 3 k (by omega) (by simp) (by simp only at q1 ⊢; omega) (by by_cases hw:w=0<;>simp[hw]) (by rfl) lkp_tokS) rfl rfl rfl rfl ?_
       rintro r st' ⟨rfl,k2,nt2,q3,q4,rfl⟩
       have hso:(out++encF n).size=out.size+(encF n).size:=ByteArray.size_append
       simp -implicitDefEqProofs (disch:=omega) only[go_sem,simprocAttr,dropH,inL]
       refine⟨⟨(j+mm,1,out++encF n,k2,nt2),by simp only; omega,hm2,by simp only; omega,q3,f,by simp only; omega,h5⟩,by simp only; omega,?_⟩
       simp only[if_neg (show ¬(1:Nat)=0 by decide)]
       constructor<;>simp only[go_sem,simprocAttr,decide_eq_true_eq,Int.natCast_add,Int.natCast_one]<;>try ((repeat' apply And.intro)<;>first|rfl|omega|(congr 3; omega)|(congr 2; omega))
       ·exact rowS_lt _ _ _ _ q3
       ·exact tokS_weak _ _ _ _ q3
end Go.Proofs.YtcgmpcbkndpmbaaGreatDoor

end
section
open Go Go.Proofs Go.Pw Go.RowKit
namespace Go.Proofs.YtcgmpcbkndpmbaaGreatDoor
set_option maxRecDepth 4000
set_option linter.unusedVariables false
set_option linter.unusedSimpArgs false
attribute [local go_sem] Nat.le_refl Tryz.results47
abbrev blS:ByteArray:=⟨#[32,9,10,13]⟩
abbrev mkS:ByteArray:=⟨#[123,125,91,93,58,44]⟩
abbrev nuS:ByteArray:=⟨#[45,48,49,50,51,52,53,54,55,56,57]⟩
structure Tk where
 kind:Int
 text:ByteArray
 int:Int
 at_:Nat
 stop:Nat
def tk0:Tk:=⟨0,ByteArray.empty,0,0,0⟩
def Tk.cells (t:Tk):List PV:=tkC t.kind t.text t.int t.at_ t.stop
def nextE (i b:Nat)(e:Int)(t:Tk)(q:Nat):Int×Nat×Tk×Nat:=if e=0 then(0,0,{ t with at_:=b,stop:=q },q) else(e,q,tk0,i)
def nextF (s:ByteArray)(i:Nat):Int×Nat×Tk×Nat:=
 if passF s blS i=s.size then(0,0,⟨0,ByteArray.empty,0,passF s blS i,passF s blS i⟩,passF s blS i) else
 if hasF s mkS (passF s blS i)=true then nextE i (passF s blS i) 0 ⟨1,s.extract (passF s blS i) (passF s blS i+1),0,0,0⟩ (passF s blS i+1) else
 if hasF s qtS (passF s blS i)=true then nextE i (passF s blS i) (txtT s (passF s blS i)).1 ⟨2,(txtT s (passF s blS i)).2.1,0,0,0⟩ (txtT s (passF s blS i)).2.2 else
 if hasF s nuS (passF s blS i)=true then nextE i (passF s blS i) (numF s (passF s blS i)).1 ⟨3,ByteArray.empty,(numF s (passF s blS i)).2.1,0,0⟩ (numF s (passF s blS i)).2.2 else
 nextE i (passF s blS i) (wordF s (passF s blS i)).1 ⟨(wordF s (passF s blS i)).2.1,ByteArray.empty,0,0,0⟩ (wordF s (passF s blS i)).2.2
set_option maxHeartbeats 8000000 in
theorem next_ok (s:ByteArray)(i:Nat)(hi:i<=s.size)(hs:s.size<=100000):Lexes 47 [] s i (nextF s i).2.2.2 (.tup [.agg (nextF s i).2.2.1.cells,vI (nextF s i).2.1,vI (nextF s i).1]):=by
 have c1:=pass_ok s blS i hi (by omega)
 have hb:=passF_le s blS i hi
 refine OkI.of_pwp (by kernel_rfl) Tryz.func47 rfl (by kernel_rfl) (by kernel_rfl) ?_
 unfold nextF
 simp -implicitDefEqProofs (disch:=omega) only[go_sem,simprocAttr,dropH,inL]
 refine CallOk.ofI (c1.at (st:=⟨[],_,_,_,_⟩) 0 rfl rfl (by simp) (by rfl)) rfl rfl rfl rfl ?_
 rintro r st' ⟨rfl,nt1,q1,rfl⟩; simp only at q1
 generalize passF s blS i=b at *
 by_cases h1:b=s.size
 ·rw[if_pos h1]
  simp -implicitDefEqProofs (disch:=omega) only[go_sem,simprocAttr,dropH,inL,decide_eq_true (show(b:Int)=(s.size:Int) by omega)]
  refine⟨⟨[],[(0,.box 94 [vS s,vI b])],[],1,0⟩,⟨rfl,rfl,rfl,rfl⟩,?_⟩
  constructor<;>simp only[go_sem,simprocAttr,decide_eq_true_eq,Int.natCast_add,Int.natCast_one]<;>try ((repeat' apply And.intro)<;>first|rfl|omega|(congr 3; omega)|(congr 2; omega))
 ·rw[if_neg h1]
  have c2:=has_ok s mkS b hb.2 (by omega)
  simp -implicitDefEqProofs (disch:=omega) only[go_sem,simprocAttr,dropH,inL,decide_eq_false (show ¬(b:Int)=(s.size:Int) by omega)]
  refine CallOk.ofI (c2.at (st:=⟨[],_,_,_,_⟩) 0 rfl rfl (by simp) (by rfl)) rfl rfl rfl rfl ?_
  rintro r st' ⟨rfl,nt1,q1,rfl⟩; simp only at q1
  cases h2:hasF s mkS b with
  |true=>
   have hl:=hasF_lt h2
   rw[if_pos rfl]
   simp -implicitDefEqProofs (disch:=omega) only[go_sem,simprocAttr,dropH,inL,h2]
   refine CallOk.ofI ((mark_ok s b hl (by omega) b).at (st:=⟨[],_,_,_,_⟩) 0 17 (by decide) (by simp) (by simp) (by rfl) (by rfl) (by rfl) (by rfl)) rfl rfl rfl rfl ?_
   rintro r st' ⟨rfl,nt1,q1,rfl⟩; simp only at q1
   rw[nextE,if_pos rfl]
   simp -implicitDefEqProofs (disch:=omega) only[go_sem,simprocAttr,dropH,inL]
   refine⟨⟨[],[(0,.box 94 [vS s,vI (b+1:Nat)])],[],1,0⟩,⟨rfl,rfl,rfl,rfl⟩,?_⟩
   constructor<;>simp only[go_sem,simprocAttr,decide_eq_true_eq,Int.natCast_add,Int.natCast_one]<;>try ((repeat' apply And.intro)<;>first|rfl|omega|(congr 3; omega)|(congr 2; omega))
  |false=>
   rw[if_neg (by simp)]
   have c3:=has_ok s qtS b hb.2 (by omega)
   simp -implicitDefEqProofs (disch:=omega) only[go_sem,simprocAttr,dropH,inL,h2]
   refine CallOk.ofI (c3.at (st:=⟨[],_,_,_,_⟩) 0 rfl rfl (by simp) (by rfl)) rfl rfl rfl rfl ?_
   rintro r st' ⟨rfl,nt1,q1,rfl⟩; simp only at q1
   cases h3:hasF s qtS b with
   |true=>
    have hl:=hasF_lt h3
    have cr:=text_ok6 s b hl hs
    rw[if_pos rfl]
    simp -implicitDefEqProofs (disch:=omega) only[go_sem,simprocAttr,dropH,inL,h3]
    generalize txtT s b=X at *
    obtain⟨e,t,q⟩:=X
    simp only at cr ⊢
    by_cases he:e=0
    ·subst he
     rw[nextE,if_pos rfl]
     have hcc:txtC (0,t,q) b=tkC 2 t 0 b 0:=if_pos rfl
     rw[hcc]at cr
     refine CallOk.ofI (cr.at (st:=⟨[],_,_,_,_⟩) 0 17 (by decide) (by simp) (by simp) (by rfl) (by rfl) (by rfl) (by rfl)) rfl rfl rfl rfl ?_
     rintro r st' ⟨rfl,nt1,q1,rfl⟩; simp only at q1
     simp -implicitDefEqProofs (disch:=omega) only[go_sem,simprocAttr,dropH,inL]
     refine⟨⟨[],[(0,.box 94 [vS s,vI q])],[],1,0⟩,⟨rfl,rfl,rfl,rfl⟩,?_⟩
     constructor<;>simp only[go_sem,simprocAttr,decide_eq_true_eq,Int.natCast_add,Int.natCast_one]<;>try ((repeat' apply And.intro)<;>first|rfl|omega|(congr 3; omega)|(congr 2; omega))
    ·rw[nextE,if_neg he]
     have hcc:txtC (e,t,q) b=tkC 2 ByteArray.empty 0 b 0:=if_neg he
     rw[hcc]at cr
     refine CallOk.ofI (cr.at (st:=⟨[],_,_,_,_⟩) 0 17 (by decide) (by simp) (by simp) (by rfl) (by rfl) (by rfl) (by rfl)) rfl rfl rfl rfl ?_
     rintro r st' ⟨rfl,nt1,q1,rfl⟩; simp only at q1
     simp -implicitDefEqProofs (disch:=omega) only[go_sem,simprocAttr,dropH,inL,decide_eq_false he]
     refine⟨⟨[],[(0,.box 94 [vS s,vI i])],[],1,0⟩,⟨rfl,rfl,rfl,rfl⟩,?_⟩
     constructor<;>simp only[go_sem,simprocAttr,decide_eq_true_eq,Int.natCast_add,Int.natCast_one]<;>try ((repeat' apply And.intro)<;>first|rfl|omega|(congr 3; omega)|(congr 2; omega))
   |false=>
    rw[if_neg (by simp)]
    have c4:=has_ok s nuS b hb.2 (by omega)
    simp -implicitDefEqProofs (disch:=omega) only[go_sem,simprocAttr,dropH,inL,h3]
    refine CallOk.ofI (c4.at (st:=⟨[],_,_,_,_⟩) 0 rfl rfl (by simp) (by rfl)) rfl rfl rfl rfl ?_
    rintro r st' ⟨rfl,nt1,q1,rfl⟩; simp only at q1
    cases h4:hasF s nuS b with
    |true=>
     have hl:=hasF_lt h4
     have cr:=number_ok5 s b hb.2 (by omega)
     rw[if_pos rfl]
     simp -implicitDefEqProofs (disch:=omega) only[go_sem,simprocAttr,dropH,inL,h4]
     generalize numF s b=X at *
     obtain⟨e,t,q⟩:=X
     simp only at cr ⊢
     by_cases he:e=0
     ·subst he
      rw[nextE,if_pos rfl]
      refine CallOk.ofI (cr.at (st:=⟨[],_,_,_,_⟩) 0 17 (by decide) (by simp) (by simp) (by rfl) (by rfl) (by rfl) (by rfl)) rfl rfl rfl rfl ?_
      rintro r st' ⟨rfl,nt1,q1,rfl⟩; simp only at q1
      simp -implicitDefEqProofs (disch:=omega) only[go_sem,simprocAttr,dropH,inL]
      refine⟨⟨[],[(0,.box 94 [vS s,vI q])],[],1,0⟩,⟨rfl,rfl,rfl,rfl⟩,?_⟩
      constructor<;>simp only[go_sem,simprocAttr,decide_eq_true_eq,Int.natCast_add,Int.natCast_one]<;>try ((repeat' apply And.intro)<;>first|rfl|omega|(congr 3; omega)|(congr 2; omega))
     ·rw[nextE,if_neg he]
      refine CallOk.ofI (cr.at (st:=⟨[],_,_,_,_⟩) 0 17 (by decide) (by simp) (by simp) (by rfl) (by rfl) (by rfl) (by rfl)) rfl rfl rfl rfl ?_
      rintro r st' ⟨rfl,nt1,q1,rfl⟩; simp only at q1
      simp -implicitDefEqProofs (disch:=omega) only[go_sem,simprocAttr,dropH,inL,decide_eq_false he]
      refine⟨⟨[],[(0,.box 94 [vS s,vI i])],[],1,0⟩,⟨rfl,rfl,rfl,rfl⟩,?_⟩
      constructor<;>simp only[go_sem,simprocAttr,decide_eq_true_eq,Int.natCast_add,Int.natCast_one]<;>try ((repeat' apply And.intro)<;>first|rfl|omega|(congr 3; omega)|(congr 2; omega))
    |false=>
     have cr:=word_ok s b hb.2 (by omega) b
     rw[if_neg (by simp)]
     simp -implicitDefEqProofs (disch:=omega) only[go_sem,simprocAttr,dropH,inL,h4]
     generalize wordF s b=X at *
     obtain⟨e,t,q⟩:=X
     simp only at cr ⊢
     by_cases he:e=0
     ·subst he
      rw[nextE,if_pos rfl]
      refine CallOk.ofI (cr.at (st:=⟨[],_,_,_,_⟩) 0 17 (by decide) (by simp) (by simp) (by rfl) (by rfl) (by rfl) (by rfl)) rfl rfl rfl rfl ?_
      rintro r st' ⟨rfl,nt1,q1,rfl⟩; simp only at q1
      simp -implicitDefEqProofs (disch:=omega) only[go_sem,simprocAttr,dropH,inL]
      refine⟨⟨[],[(0,.box 94 [vS s,vI q])],[],1,0⟩,⟨rfl,rfl,rfl,rfl⟩,?_⟩
      constructor<;>simp only[go_sem,simprocAttr,decide_eq_true_eq,Int.natCast_add,Int.natCast_one]<;>try ((repeat' apply And.intro)<;>first|rfl|omega|(congr 3; omega)|(congr 2; omega))
     ·rw[nextE,if_neg he]
      refine CallOk.ofI (cr.at (st:=⟨[],_,_,_,_⟩) 0 17 (by decide) (by simp) (by simp) (by rfl) (by rfl) (by rfl) (by rfl)) rfl rfl rfl rfl ?_
      rintro r st' ⟨rfl,nt1,q1,rfl⟩; simp only at q1
      simp -implicitDefEqProofs (disch:=omega) only[go_sem,simprocAttr,dropH,inL,decide_eq_false he]
      refine⟨⟨[],[(0,.box 94 [vS s,vI i])],[],1,0⟩,⟨rfl,rfl,rfl,rfl⟩,?_⟩
      constructor<;>simp only[go_sem,simprocAttr,decide_eq_true_eq,Int.natCast_add,Int.natCast_one]<;>try ((repeat' apply And.intro)<;>first|rfl|omega|(congr 3; omega)|(congr 2; omega))
end Go.Proofs.YtcgmpcbkndpmbaaGreatDoor

end
section
open Go Go.Proofs Go.Pw Go.RowKit
namespace Go.Proofs.YtcgmpcbkndpmbaaGreatDoor
set_option maxRecDepth 4000
set_option linter.unusedVariables false
set_option linter.unusedSimpArgs false
attribute [local go_sem] Nat.le_refl Tryz.results65 Tryz.results84 Tryz.results85 encI_len
theorem v1_ok (n:Int):Ok Tryz.prog 85 [vI n] (.tup []):=by
 refine Ok.of_pwp (by kernel_rfl) Tryz.func85 rfl (by kernel_rfl) (by kernel_rfl) ?_
 simp -implicitDefEqProofs (disch:=omega) only[go_sem,simprocAttr, ↓ix_enc]
set_option maxHeartbeats 4000000 in
theorem walk0_ok (s:ByteArray)(hs:s.size<=1000000):Ok Tryz.prog 84 [vS s,.fn 85 []] (vI (scan s 0).2):=by
 refine Ok.of_pwp (by kernel_rfl) Tryz.func84 rfl (by kernel_rfl) (by kernel_rfl) ?_
 generalize hr:(scan s 0).2=rr
 simp -implicitDefEqProofs (disch:=omega) only[go_sem,simprocAttr, ↓ix_enc]
 refine p_loop (ι:={ i:Nat // i<=s.size/\rr=(scan s i).2 })
  (fun p=>⟨[(5,vI p.1),(0,vS s),(1,.fn 85 [])],[],[],0,0⟩) (fun p=>s.size-p.1) ⟨0,Nat.zero_le _,hr.symm⟩ ?_ ?_
 ·constructor<;>simp only[go_sem,simprocAttr,decide_eq_true_eq,Int.natCast_zero]<;>try ((repeat' apply And.intro)<;>first|rfl|omega|(congr 3; omega)|(congr 2; omega))
 ·rintro⟨i,h1,h5⟩
  simp only at h1 h5 ⊢
  simp -implicitDefEqProofs (disch:=omega) only[go_sem,simprocAttr, ↓ix_enc]
  with_reducible refine ifK_split (fun hlt=>?_) (fun hge=>?_)
  ·have hlt':i<s.size:=by omega
   have d:=decode_ok0 (s.extract i s.size) (by rw[Lib.tail_size]; omega)
   rw[decF_tail hlt']at d
   simp -implicitDefEqProofs (disch:=omega) only[go_sem,simprocAttr, ↓ix_enc]
   by_cases hb:Utf8.decode s i=(65533,1)
   ·rw[hb]at d
    rw[scan_bad hlt' hb]at h5
    simp only[goodN,if_true]at d
    with_reducible refine CallOk.of d rfl ?_
    simp -implicitDefEqProofs (disch:=omega) only[go_sem,simprocAttr, ↓ix_enc]
    rw[h5]
   ·rw[goodN,if_neg hb]at d
    have hp:=dec_pos s i hlt'
    rw[scan_step hlt' hb]at h5
    generalize Utf8.decode s i=q at *
    with_reducible refine CallOk.of d rfl ?_
    have hd0:¬((q.2:Int)=0):=by omega
    simp -implicitDefEqProofs (disch:=omega) only[go_sem,simprocAttr, ↓ix_enc]
    with_reducible refine CallOk.of (v1_ok _) rfl ?_
    simp -implicitDefEqProofs (disch:=omega) only[go_sem,simprocAttr, ↓ix_enc]
    refine⟨⟨i+q.2,by omega,h5⟩,by simp only; omega,?_⟩
    constructor<;>simp only[go_sem,simprocAttr,decide_eq_true_eq,Int.natCast_add]<;>try ((repeat' apply And.intro)<;>first|rfl|omega|(congr 3; omega)|(congr 2; omega))
  ·rw[scan_end (by omega)]at h5
   simp -implicitDefEqProofs (disch:=omega) only[go_sem,simprocAttr, ↓ix_enc]
   rw[h5]
def validF (s:ByteArray):PV:=if(scan s 0).2=s.size then .tup [vI 0,vB true] else .tup [vI (scan s 0).2,vB false]
theorem valid_ok (s:ByteArray)(hs:s.size<=1000000):Ok Tryz.prog 65 [vS s] (validF s):=by
 refine Ok.of_pwp (by kernel_rfl) Tryz.func65 rfl (by kernel_rfl) (by kernel_rfl) ?_
 unfold validF
 have hl:=scan_len s 0 (Nat.zero_le _)
 have w0:=walk0_ok s hs
 simp -implicitDefEqProofs (disch:=omega) only[go_sem,simprocAttr, ↓ix_enc]
 with_reducible refine CallOk.of w0 rfl ?_
 simp -implicitDefEqProofs (disch:=omega) only[go_sem,simprocAttr, ↓ix_enc]
 with_reducible refine ifK_split (fun hlt=>?_) (fun hge=>?_)
 ·rw[if_neg (by omega)]
  simp -implicitDefEqProofs (disch:=omega) only[go_sem,simprocAttr, ↓ix_enc]
 ·rw[if_pos (by omega)]
  simp -implicitDefEqProofs (disch:=omega) only[go_sem,simprocAttr, ↓ix_enc]
end Go.Proofs.YtcgmpcbkndpmbaaGreatDoor

end
section
open Go Go.Proofs Go.Pw Go.RowKit
namespace Go.Proofs.YtcgmpcbkndpmbaaGreatDoor
set_option maxRecDepth 4000
set_option linter.unusedVariables false
set_option linter.unusedSimpArgs false
attribute [local go_sem] Nat.le_refl Tryz.results112 Tryz.results113 Tryz.results124 Tryz.results96
def encT (l:List ByteArray):List (List PV):=l.map fun s=>[vS s]
theorem encT_len (l:List ByteArray):(encT l).length=l.length:=by simp[encT]
theorem encT_get (l:List ByteArray)(i:Nat):(encT l).getD i []=if i<l.length then[vS (l.getD i ByteArray.empty)] else[]:=by
 unfold encT
 by_cases h:i<l.length
 ·simp[h,List.getD_eq_getElem?_getD]
 ·rw[if_neg h,List.getD_eq_getElem?_getD,List.getElem?_eq_none (by simpa using h)]; rfl
theorem encT_take (l:List ByteArray)(n:Nat):(encT l).take n=encT (l.take n):=by simp[encT,List.map_take]
theorem encT_drop (l:List ByteArray)(n:Nat):(encT l).drop n=encT (l.drop n):=by simp[encT,List.map_drop]
theorem encT_nil:encT []=[]:=rfl
theorem ix_T {a:List ByteArray}{i:Int}{K:PV->Prop}(h0:0<=i)(h1:i<(a.length:Int)):ixP 1 i K (.sl (encT a))=K (.fp [vS (a.getD i.toNat ByteArray.empty)]):=by
 have h:i.toNat<a.length:=by omega
 simp only[ixP,encT_get,if_pos h,encT_len,List.length_singleton,h0,h1,true_and]
theorem ix_Tr {a:List ByteArray}{i:Int}{k:Nat}{K:PV->Prop}(h0:0<=i)(h1:i<(a.length:Int)):ixP 1 i K (.row k (encT a))=K (.fp [vS (a.getD i.toNat ByteArray.empty)]):=by
 have h:i.toNat<a.length:=by omega
 simp only[ixP,encT_get,if_pos h,encT_len,List.length_singleton,h0,h1,true_and]
theorem encT_all (l:List ByteArray):(∀x∈encT l,x.length=1)=True:=eq_true (fun x hx=>by
 obtain⟨n,_,rfl⟩:=List.mem_map.1 hx
 rfl)
theorem fz_encT:∀(l:List ByteArray),fzLL (encT l)=some (encT l)
 | []=>rfl
 |x::r=>by
  have ih:=fz_encT r
  unfold encT at ih ⊢
  rw[List.map_cons,fzLL,ih]
  rfl
attribute [go_sem ↓ 2000] ix_T ix_Tr
attribute [go_sem] encT_len encT_all fz_encT
def ltT (a b:ByteArray):Bool:=Op.bytesLess a.data.toList b.data.toList
theorem ltT_lt (a b:ByteArray):ltT a b=true↔a.data.toList<b.data.toList:=by unfold ltT; rw[bytesLess_eq]; simp
theorem byte_ext {a b:ByteArray}(h:a.data.toList=b.data.toList):a=b:=by cases a; cases b; simp at h; rw[h]
theorem ltT_irr (a:ByteArray):ltT a a=false:=by
 cases h:ltT a a with
 |false=>rfl
 |true=>exact absurd ((ltT_lt a a).1 h) (List.lt_irrefl _)
theorem ltT_trans {a b c:ByteArray}(h:ltT a b=true)(k:ltT b c=true):ltT a c=true:=(ltT_lt _ _).2 (List.lt_trans ((ltT_lt _ _).1 h) ((ltT_lt _ _).1 k))
theorem ltT_tri (a b:ByteArray):ltT a b=true∨a=b∨ltT b a=true:=by
 rcases Decidable.em (a.data.toList<b.data.toList)with h|h
 ·exact .inl ((ltT_lt _ _).2 h)
 ·rcases Decidable.em (b.data.toList<a.data.toList)with k|k
  ·exact .inr (.inr ((ltT_lt _ _).2 k))
  ·exact .inr (.inl (byte_ext (List.le_antisymm (List.not_lt.1 k) (List.not_lt.1 h))))
theorem ltT_asymm {a b:ByteArray}(h:ltT a b=true):ltT b a=false:=by
 cases k:ltT b a with
 |false=>rfl
 |true=>have:=ltT_trans h k; rw[ltT_irr]at this; cases this
theorem isNaNc_ok (s:ByteArray):Ok Tryz.prog 124 [vS s] (vB false):=by
 refine Ok.of_pwp (by kernel_rfl) Tryz.func124 rfl (by kernel_rfl) (by kernel_rfl) ?_
 simp -implicitDefEqProofs (disch:=omega) only[go_sem,simprocAttr]
theorem isNaNs_ok (s:ByteArray):Ok Tryz.prog 113 [vS s] (vB false):=by
 refine Ok.of_pwp (by kernel_rfl) Tryz.func113 rfl (by kernel_rfl) (by kernel_rfl) ?_
 simp -implicitDefEqProofs (disch:=omega) only[go_sem,simprocAttr]
theorem lessT_ok (a b:ByteArray):Ok Tryz.prog 112 [vS a,vS b] (vB (ltT a b)):=by
 refine Ok.of_pwp (by kernel_rfl) Tryz.func112 rfl (by kernel_rfl) (by kernel_rfl) ?_
 unfold ltT
 simp -implicitDefEqProofs (disch:=omega) only[go_sem,simprocAttr]
 with_reducible refine CallOk.of (isNaNc_ok a) rfl ?_
 simp -implicitDefEqProofs (disch:=omega) only[go_sem,simprocAttr]
def posT (l:List ByteArray)(t:ByteArray):Nat:=(l.takeWhile fun s=>ltT s t).length
def foundT (l:List ByteArray)(t:ByteArray):Bool:=decide (posT l t<l.length)&&decide (l.getD (posT l t) ByteArray.empty=t)
def SortT (l:List ByteArray):Prop:=l.Pairwise fun a b=>ltT a b=true
theorem posT_le (l:List ByteArray)(t:ByteArray):posT l t<=l.length:=(List.takeWhile_sublist _).length_le
theorem posT_of {l:List ByteArray}{t:ByteArray}{i:Nat}(hi:i<=l.length)(h1:∀k,k<i->ltT (l.getD k ByteArray.empty) t=true)(h2:i<l.length->ltT (l.getD i ByteArray.empty) t=false):posT l t=i:=by
 unfold posT
 induction l generalizing i with
 |nil=>simp at hi ⊢; omega
 |cons x r ih=>
  cases i with
  |zero=>
   have:=h2 (by simp)
   simp at this
   rw[List.takeWhile_cons,this]
   rfl
  |succ i=>
   have h0:=h1 0 (by omega)
   simp at h0
   rw[List.takeWhile_cons,h0]
   simp only[if_true,List.length_cons]
   rw[ih (i:=i) (by simp at hi; omega) (fun k hk=>by have:=h1 (k+1) (by omega); simpa using this) (fun hk=>by have:=h2 (by simp; omega); simpa using this)]
theorem SortT.get {l:List ByteArray}(h:SortT l){i j:Nat}(hij:i<j)(hj:j<l.length):ltT (l.getD i ByteArray.empty) (l.getD j ByteArray.empty)=true:=by
 have:=List.pairwise_iff_getElem.1 h i j (by omega) hj hij
 rw[List.getD_eq_getElem?_getD,List.getD_eq_getElem?_getD,List.getElem?_eq_getElem (by omega),List.getElem?_eq_getElem hj]
 exact this
set_option maxHeartbeats 4000000 in
theorem bs_ok (l:List ByteArray)(t:ByteArray)(hs:SortT l)(hl:l.length<=1000000000):Ok Tryz.prog 96 [.sl (encT l),vS t] (.tup [vI (posT l t),vB (foundT l t)]):=by
 refine Ok.of_pwp (by kernel_rfl) Tryz.func96 rfl (by kernel_rfl) (by kernel_rfl) ?_
 simp -implicitDefEqProofs (disch:=omega) only[go_sem,simprocAttr]
 refine p_loop (ι:={ p:Nat×Nat // p.1<=p.2/\p.2<=l.length/\(∀k,k<p.1->ltT (l.getD k ByteArray.empty) t=true)/\(∀k,p.2<=k->k<l.length->ltT (l.getD k ByteArray.empty) t=false) })
  (fun p=>⟨[(7,vI p.1.1),(8,vI p.1.2),(6,vI l.length),(0,.sl (encT l)),(1,vS t)],[],[],0,0⟩) (fun p=>p.1.2-p.1.1) ⟨(0,l.length),Nat.zero_le _,Nat.le_refl _,fun k h=>absurd h (Nat.not_lt_zero _),fun k h h'=>absurd h' (by simp only at h; omega)⟩ ?_ ?_
 ·constructor<;>simp only[go_sem,simprocAttr,decide_eq_true_eq,Int.natCast_zero]<;>try ((repeat' apply And.intro)<;>first|rfl|omega|(congr 3; omega)|(congr 2; omega))
 ·rintro⟨⟨i,j⟩,h1,h2,h3,h4⟩
  simp only at h1 h2 h3 h4 ⊢
  simp -implicitDefEqProofs (disch:=omega) only[go_sem,simprocAttr]
  with_reducible refine ifK_split (fun hlt=>?_) (fun hge=>?_)
  ·have hw1:IntKind.wrap .u64 ((i:Int)+(j:Int))=(i:Int)+(j:Int):=by rw[IntKind.wrap_u64]; omega
   have hd:((i:Int)+(j:Int)).fdiv (2^min 1 64)=(((i+j)/2:Nat):Int):=by
    have:((2:Int)^min 1 64)=2:=by decide
    rw[this,Int.fdiv_eq_ediv_of_nonneg _ (by decide)]
    omega
   have hm1:(i+j)/2<j:=by omega
   have hm0:i<=(i+j)/2:=by omega
   simp -implicitDefEqProofs (disch:=omega) only[go_sem,simprocAttr,hw1,hd]
   generalize hq:(i+j)/2=m at *
   have hml:m<l.length:=by omega
   simp -implicitDefEqProofs (disch:=omega) only[go_sem,simprocAttr,hw1,hd]
   with_reducible refine CallOk.of (lessT_ok (l.getD m ByteArray.empty) t) rfl ?_
   simp -implicitDefEqProofs (disch:=omega) only[go_sem,simprocAttr]
   cases hc:ltT (l.getD m ByteArray.empty) t with
   |true=>
    simp -implicitDefEqProofs (disch:=omega) only[go_sem,simprocAttr]
    refine⟨⟨(m+1,j),by simp only; omega,h2,fun k hk=>?_,h4⟩,by simp only; omega,?_⟩
    ·simp only at hk
     rcases Nat.lt_or_eq_of_le (Nat.le_of_lt_succ hk)with h|h
     ·exact ltT_trans (hs.get h hml) hc
     ·rw[h]; exact hc
    ·constructor<;>simp only[go_sem,simprocAttr,decide_eq_true_eq,Int.natCast_add,Int.natCast_one]<;>try ((repeat' apply And.intro)<;>first|rfl|omega|(congr 3; omega)|(congr 2; omega))
   |false=>
    simp -implicitDefEqProofs (disch:=omega) only[go_sem,simprocAttr]
    refine⟨⟨(i,m),by simp only; omega,by simp only; omega,h3,fun k hk hkl=>?_⟩,by simp only; omega,?_⟩
    ·simp only at hk
     rcases Nat.lt_or_eq_of_le hk with h|h
     ·cases hx:ltT (l.getD k ByteArray.empty) t with
      |false=>rfl
      |true=>rw[ltT_trans (hs.get h hkl) hx]at hc; cases hc
     ·rw[<-h]; exact hc
    ·constructor<;>simp only[go_sem,simprocAttr,decide_eq_true_eq]<;>try ((repeat' apply And.intro)<;>first|rfl|omega|(congr 3; omega)|(congr 2; omega))
  ·have hij:i=j:=by omega
   subst hij
   have hp:posT l t=i:=posT_of h2 h3 (fun h=>h4 i (Nat.le_refl _) h)
   unfold foundT
   rw[hp]
   by_cases hi:i<l.length
   ·simp -implicitDefEqProofs (disch:=omega) only[go_sem,simprocAttr]
    by_cases he:l.getD i ByteArray.empty=t
    ·rw[he,decide_eq_true hi,decide_eq_true rfl,Bool.and_self]
     simp -implicitDefEqProofs (disch:=omega) only[go_sem,simprocAttr]
    ·rw[decide_eq_true hi,decide_eq_false he,Bool.and_false]
     simp -implicitDefEqProofs (disch:=omega) only[go_sem,simprocAttr]
     with_reducible refine CallOk.of (isNaNs_ok (l.getD i ByteArray.empty)) rfl ?_
     simp -implicitDefEqProofs (disch:=omega) only[go_sem,simprocAttr]
   ·rw[decide_eq_false hi,Bool.false_and]
    simp -implicitDefEqProofs (disch:=omega) only[go_sem,simprocAttr]
end Go.Proofs.YtcgmpcbkndpmbaaGreatDoor

end
section
open Go Go.Proofs Go.Pw Go.RowKit
namespace Go.Proofs.YtcgmpcbkndpmbaaGreatDoor
set_option maxRecDepth 4000
set_option linter.unusedVariables false
set_option linter.unusedSimpArgs false
attribute [local go_sem] Nat.le_refl Tryz.results111 Tryz.results44 Tryz.results94 Tryz.results95
def isT (s:ByteArray):Bool:=decide ((scan s 0).2=s.size)
def fewT (l:List ByteArray):Prop:=∀s∈l,s.size<=1000000
theorem fewT.get {l:List ByteArray}(h:fewT l)(i:Nat):(l.getD i ByteArray.empty).size<=1000000:=by
 by_cases hi:i<l.length
 ·rw[List.getD_eq_getElem?_getD,List.getElem?_eq_getElem hi]; exact h _ (List.getElem_mem hi)
 ·rw[List.getD_eq_getElem?_getD,List.getElem?_eq_none (by omega)]; exact Nat.zero_le _
theorem text_ok (s:ByteArray)(hs:s.size<=1000000):Ok Tryz.prog 44 [vS s] (vB (isT s)):=by
 refine Ok.of_pwp (by kernel_rfl) Tryz.func44 rfl (by kernel_rfl) (by kernel_rfl) ?_
 have v:=valid_ok s hs
 unfold isT
 unfold validF at v
 by_cases h:(scan s 0).2=s.size
 ·rw[if_pos h]at v
  rw[decide_eq_true h]
  simp -implicitDefEqProofs (disch:=omega) only[go_sem,simprocAttr]
  with_reducible refine CallOk.of (v) rfl ?_
  simp -implicitDefEqProofs (disch:=omega) only[go_sem,simprocAttr]
 ·rw[if_neg h]at v
  rw[decide_eq_false h]
  simp -implicitDefEqProofs (disch:=omega) only[go_sem,simprocAttr]
  with_reducible refine CallOk.of (v) rfl ?_
  simp -implicitDefEqProofs (disch:=omega) only[go_sem,simprocAttr]
theorem o1_ok (s:ByteArray)(hs:s.size<=1000000):Ok Tryz.prog 95 [vS s] (vB (!isT s)):=by
 refine Ok.of_pwp (by kernel_rfl) Tryz.func95 rfl (by kernel_rfl) (by kernel_rfl) ?_
 simp -implicitDefEqProofs (disch:=omega) only[go_sem,simprocAttr]
 with_reducible refine CallOk.of (text_ok s hs) rfl ?_
 simp -implicitDefEqProofs (disch:=omega) only[go_sem,simprocAttr]
def idxT (l:List ByteArray):Int:=if l.any (fun s=> !isT s)=true then(l.findIdx (fun s=> !isT s):Int) else -1
theorem take_snocG {α:Type}{a:List α}{d:α}{k:Nat}(h:k<a.length):a.take (k+1)=a.take k++[a.getD k d]:=by
 rw[List.take_succ_eq_append_getElem h,List.getD_eq_getElem?_getD,List.getElem?_eq_getElem h]; rfl
set_option maxHeartbeats 4000000 in
theorem idxS_ok (l:List ByteArray)(hf:fewT l)(hl:l.length<=140737488351232):Ok Tryz.prog 111 [.sl (encT l),.fn 95 []] (vI (idxT l)):=by
 refine Ok.of_pwp (by kernel_rfl) Tryz.func111 rfl (by kernel_rfl) (by kernel_rfl) ?_
 generalize hr:idxT l=rr
 simp -implicitDefEqProofs (disch:=omega) only[go_sem,simprocAttr]
 refine p_loop (ι:={ i:Nat // i<=l.length/\(l.take i).any (fun s=> !isT s)=false }) (fun p=>⟨[(8,vI p.1),(7,vI l.length),(0,.sl (encT l)),(1,.fn 95 [])],[],[],0,0⟩) (fun p=>l.length-p.1) ⟨0,Nat.zero_le _,rfl⟩ ?_ ?_
 ·constructor<;>simp only[go_sem,simprocAttr,decide_eq_true_eq,Int.natCast_zero]<;>try ((repeat' apply And.intro)<;>first|rfl|omega|(congr 3; omega)|(congr 2; omega))
 ·rintro⟨i,h1,h2⟩
  simp only
  simp -implicitDefEqProofs (disch:=omega) only[go_sem,simprocAttr]
  with_reducible refine ifK_split (fun hlt=>?_) (fun hge=>?_)
  ·have hi:i<l.length:=by omega
   simp -implicitDefEqProofs (disch:=omega) only[go_sem,simprocAttr]
   with_reducible refine CallOk.of (o1_ok (l.getD i ByteArray.empty) (hf.get i)) rfl ?_
   have eg:l.getD i ByteArray.empty=l[i]:=by rw[List.getD_eq_getElem?_getD,List.getElem?_eq_getElem hi]; rfl
   cases hw:(!isT (l.getD i ByteArray.empty))with
   |true=>
    simp -implicitDefEqProofs (disch:=omega) only[go_sem,simprocAttr]
    rw[<-hr,idxT,if_pos (List.any_eq_true.2 ⟨l[i],List.getElem_mem hi,by rw[<-eg]; exact hw⟩)]
    have:l.findIdx (fun s=> !isT s)=i:=by
     rw[List.findIdx_eq hi]
     refine⟨by rw[<-eg]; exact hw,fun j hj=>?_⟩
     have:=List.any_eq_false.1 h2 (l[j]) (by rw[List.mem_take_iff_getElem]; exact⟨j,by omega,rfl⟩)
     simpa using this
    rw[this]
   |false=>
    simp -implicitDefEqProofs (disch:=omega) only[go_sem,simprocAttr]
    refine⟨⟨i+1,by omega,by rw[take_snocG (d:=ByteArray.empty) hi,List.any_append,h2,List.any_cons,hw]; rfl⟩,by simp only; omega,?_⟩
    constructor<;>simp only[go_sem,simprocAttr,decide_eq_true_eq,Int.natCast_add,Int.natCast_one]<;>try ((repeat' apply And.intro)<;>first|rfl|omega|(congr 3; omega)|(congr 2; omega))
  ·rw[List.take_of_length_le (by omega)]at h2
   simp -implicitDefEqProofs (disch:=omega) only[go_sem,simprocAttr]
   rw[<-hr,idxT,h2]
   rfl
theorem contS_ok (l:List ByteArray)(hf:fewT l)(hl:l.length<=140737488351232):Ok Tryz.prog 94 [.sl (encT l),.fn 95 []] (vB (l.any fun s=> !isT s)):=by
 refine Ok.of_pwp (by kernel_rfl) Tryz.func94 rfl (by kernel_rfl) (by kernel_rfl) ?_
 simp -implicitDefEqProofs (disch:=omega) only[go_sem,simprocAttr]
 with_reducible refine CallOk.of (idxS_ok l hf hl) rfl ?_
 cases h:l.any (fun s=> !isT s)with
 |true=>
  have e:idxT l=(l.findIdx (fun s=> !isT s):Int):=by rw[idxT,h]; rfl
  rw[e]
  simp -implicitDefEqProofs (disch:=omega) only[go_sem,simprocAttr]
  rw[decide_eq_true (by omega)]
 |false=>
  have e:idxT l = -1:=by rw[idxT,h]; rfl
  rw[e]
  simp -implicitDefEqProofs (disch:=omega) only[go_sem,simprocAttr]
end Go.Proofs.YtcgmpcbkndpmbaaGreatDoor

end
section
open Go Go.Proofs Go.RowKit
namespace Go.Proofs.YtcgmpcbkndpmbaaGreatDoor
set_option maxRecDepth 4000
set_option linter.unusedVariables false
set_option linter.unusedSimpArgs false
theorem run_copy_cellsN {P:Program}(w:World)(dT sT ty elem:TypeId)(sz b o dLen dCap:Nat)(a:Addr)(sLen sCap:Nat)(cs:List Value)
  (hu:P.underlying dT=some (.slice elem)) (hs:(P.info? elem).map (·.size)=some sz) (hn:cs.length=Nat.min sLen dLen*sz)
  (hsrc:∀j v,cs[j]? = some v->w.cell? (a.add j)=some v) (hc:∀j,j<cs.length->(w.cell? ⟨b,o+j,none⟩).isSome=true) (hf:∀j,j<cs.length->w.frozen? ⟨b,o+j,none⟩=false) (h1:∀v∈cs,v.oneCell'=true) :
  (Builtin.copy_ #[dT,sT] ty #[.slice (some ⟨b,o,none⟩) dLen dCap,.slice (some a) sLen sCap]).run P w = .ok (goInt (Nat.min sLen dLen)) (w.setCells b o cs):=by
 have hl:=run_loadCells_list (P:=P) w a cs hsrc
 have hst:=run_storeCells_cells (P:=P) b o cs 0 w (by simpa using hc) (by simpa using hf) h1
 cases hq:P.info? elem with
 |none=>simp[hq]at hs
 |some i=>
  have hi:i.size=sz:=by simpa [hq]using hs
  simp[Builtin.copy_,run_underlying hu,Builtin.lenOf,Builtin.firstCells,sizeOf,typeInfo,hq,hi,<-hn,hl,hst]
end Go.Proofs.YtcgmpcbkndpmbaaGreatDoor

end
section
open Go Go.Proofs Go.RowKit Go.Lib
namespace Go.Proofs.YtcgmpcbkndpmbaaGreatDoor
set_option maxRecDepth 4000
set_option linter.unusedVariables false
set_option linter.unusedSimpArgs false
theorem insS_info:∃i0,Tryz.prog.info? 9=some i0/\i0.zero=some (.string ⟨#[]⟩)/\i0.size=1/\i0.bytes=16:=⟨_,rfl,rfl,rfl,rfl⟩
set_option maxHeartbeats 4000000 in
set_option maxRecDepth 100000 in
theorem insS_shift (b off n c i vb voff m vc:Nat)(cs vs:List Value)(w:World)(hi:i<n)(hm:0<m)(hroom:n+m<=c)(hc63:c<=9223372036854775807)(hvb:vb≠b)
  (hcl:cs.length=n) (hvl:vs.length=m)
  (hcs:∀j v,cs[j]? = some v->w.cell? ⟨b,off+j,none⟩=some v) (hsp:∀j,j<(n+m)->(w.cell? ⟨b,off+j,none⟩).isSome=true) (hfz:∀j,j<(n+m)->w.frozen? ⟨b,off+j,none⟩=false)
  (hvs:∀j v,vs[j]? = some v->w.cell? ⟨vb,voff+j,none⟩=some v) (h1c:∀v∈cs,v.oneCell'=true) (h1v:∀v∈vs,v.oneCell'=true)
  (tA tB:TypeId) (kA kB:Nat) (hsa:w.shape? vb=some (tA,kA)) (hsb:w.shape? b=some (tB,kB)) (hkB:kB≠0) (hfa:w.frozen? ⟨vb,voff,none⟩=false) (hfe:w.frozen? ⟨vb,kA,none⟩=false) :
  Calls Tryz.prog 97 #[.slice (some ⟨b,off,none⟩) n c,.int .i64 i,.slice (some ⟨vb,voff,none⟩) m vc] w fun e w'=>
   e = .returned (.slice (some ⟨b,off,none⟩) (n+m) c)/\w'=(w.drew.setCells b (off+(i+m)) (cs.drop (i))).setCells b (off+i) vs:=by
 have hz1:¬((m:Int)=0):=by omega
 have hz2:¬((i:Int)=(n:Int)):=by omega
 obtain⟨i0,hi0,hz0,hzs,hzb⟩:=insS_info
 have hsz:(Tryz.prog.info? 9).map (·.size)=some 1:=by rw[hi0]; simp[hzs]
 have hov:∀lb cb,(callFunc 114 #[.slice (some ⟨vb,voff,none⟩) m vc,.slice (some ⟨b,off+(i+m),none⟩) lb cb]).run Tryz.prog w = .ok (.value (.bool false)) w:=fun lb cb=>by
  rw[run_callFunc_extern Tryz.func114 (by kernel_rfl) (by kernel_rfl) (by kernel_rfl) (e:=Extern.SlicesOverlaps.overlaps #[26,26] #[4]) (by kernel_rfl),
   Lib.run_overlaps_apart w 26 4 9 Tryz.underlying26 1 (fun w=>by simp[sizeOf,typeInfo,hi0,hzs]) ⟨vb,voff,none⟩ ⟨b,off+(i+m),none⟩ m vc lb cb hvb tA tB kA kB hsa hsb hkB hfa hfe]
  rfl
 have hdl:(cs.drop (i)).length=(n-i):=by have:=List.length_drop (i:=i) (l:=cs); omega
 have mixed:Tryz.prog.follows .mixedOrders=true:=by kernel_rfl
 have hw1:IntKind.i64.wrap ((i:Int)+(m:Int))=(i:Int)+(m:Int):=by rw[IntKind.wrap_i64]; omega
 have hb1:(0:Int)<=(i:Int)+(m:Int):=by omega
 have hin:i<=n:=by omega
 have htn:((i:Int)+(m:Int)).toNat=i+m:=by omega
 have hb2:¬(c=i+m):=by omega
 have hb3:(i:Int)<=(n:Int)+(m:Int):=by omega
 have hb4:¬(c=i):=by omega
 have hcp1:∀ty dc sc,(Builtin.copy_ #[26,26] ty #[.slice (some ⟨b,off+(i+m),none⟩) (n+m-(i+m)) dc,.slice (some ⟨b,off+i,none⟩) (n+m-i) sc]).run Tryz.prog w.drew = .ok (goInt (Nat.min (n+m-i) (n+m-(i+m)))) (w.drew.setCells b (off+(i+m)) (cs.drop (i))):=fun ty dc sc=>
  run_copy_cellsN w.drew _ _ ty 9 1 b (off+(i+m)) (n+m-(i+m)) dc ⟨b,off+i,none⟩ (n+m-i) sc (cs.drop (i)) Tryz.underlying26 hsz (by rw[hdl]; simp only[Nat.min_def]; split<;>omega)
   (fun j v hj=>by rw[Addr.add_lit,Nat.add_assoc]; exact hcs (i+j) v (by rwa [List.getElem?_drop]at hj))
   (fun j hj=>by rw[Nat.add_assoc]; exact hsp _ (by omega)) (fun j hj=>by rw[Nat.add_assoc]; exact hfz _ (by omega)) (fun v hv=>h1c v (List.mem_of_mem_drop hv))
 obtain⟨W1,hW1⟩:∃W1,W1=w.drew.setCells b (off+(i+m)) (cs.drop (i)):=⟨_,rfl⟩
 have hsp1:∀k,k<(n+m)->(W1.cell? ⟨b,off+k,none⟩).isSome=true:=fun k hk=>by
  rw[hW1]
  exact isSome_setCells b _ _ _ (fun j hj=>by rw[Nat.add_assoc]; exact hsp _ (by omega)) _ (hsp k hk)
 have hcp2:∀(W:World),(∀x,W.cell? x=W1.cell? x)->(∀x,W.frozen? x=W1.frozen? x)->∀ty dc,(Builtin.copy_ #[26,26] ty #[.slice (some ⟨b,off+i,none⟩) (n+m-i) dc,.slice (some ⟨vb,voff,none⟩) m vc]).run Tryz.prog W = .ok (goInt (Nat.min m (n+m-i))) (W.setCells b (off+i) vs):=fun W hWc hWf ty dc=>
  run_copy_cellsN W _ _ ty 9 1 b (off+i) (n+m-i) dc ⟨vb,voff,none⟩ m vc vs Tryz.underlying26 hsz (by rw[hvl]; simp only[Nat.min_def]; split<;>omega)
   (fun j v hj=>by
    rw[Addr.add_lit,hWc,hW1,World.cell?_setCells_out b _ _ _ _ (fun h _=>absurd h hvb)]
    exact hvs j v hj)
   (fun j hj=>by rw[hWc,Nat.add_assoc]; exact hsp1 _ (by omega)) (fun j hj=>by rw[hWf,hW1,World.frozen?_setCells,Nat.add_assoc]; exact hfz _ (by omega)) h1v
 rw[<-hW1]at hcp1
 go_enter Tryz.func97,Tryz.ntmps97
 go_wp2_with (simp only[hov])
 go_region_law_o (refine step_copy_runI rfl _ _ 26 26 rfl _ _ (by simp[Act.eval,Act.put]) (by simp[Act.eval,Act.put]) (hcp1 _ _ _) ?_)
 go_wp2_with (at_builtin; refine wpList_copy_runI _ rfl _ _ 26 26 rfl _ _ rfl rfl (hcp2 _ (fun _=>rfl) (fun _=>rfl) _ _) ?_)
 go_ret
 first|exact⟨rfl,rfl⟩|exact⟨rfl,by rw[hW1]⟩
set_option maxHeartbeats 4000000 in
set_option maxRecDepth 100000 in
theorem insS_end_room (b off n c vb voff m vc:Nat)(vs:List Value)(w:World)(hm:0<m)(hroom:n+m<=c)(hc63:c<=9223372036854775807)
  (hvl:vs.length=m) (hsp:∀j,j<m->(w.cell? ⟨b,off+n+j,none⟩).isSome=true) (hfz:∀j,j<m->w.frozen? ⟨b,off+n+j,none⟩=false)
  (hvs:∀j v,vs[j]? = some v->w.cell? ⟨vb,voff+j,none⟩=some v) (h1v:∀v∈vs,v.oneCell'=true) :
  Calls Tryz.prog 97 #[.slice (some ⟨b,off,none⟩) n c,.int .i64 n,.slice (some ⟨vb,voff,none⟩) m vc] w fun e w'=>
   e = .returned (.slice (some ⟨b,off,none⟩) (n+m) c)/\w'=w.setCells b (off+n) vs:=by
 have mixed:Tryz.prog.follows .mixedOrders=true:=by kernel_rfl
 obtain⟨i0,hi0,hz0,hzs,hzb⟩:=insS_info
 have hz1:¬((m:Int)=0):=by omega
 have hsrc:Src Tryz.prog i0.size 26 (.slice (some ⟨vb,voff,none⟩) m vc) m vs w:=by
  rw[hzs]
  exact Src.ofSlice w Tryz.underlying26 ⟨vb,voff,none⟩ m vc vs (by omega) (fun j u hj=>by rw[Addr.add_lit]; exact hvs j u hj) h1v
 have hrun:∀ty,(Builtin.append_ #[26,26] ty #[.slice (some ⟨b,off,none⟩) n c,.slice (some ⟨vb,voff,none⟩) m vc]).run Tryz.prog w = .ok (.slice (some ⟨b,off,none⟩) (n+m) c) (w.setCells b (off+n) vs):=fun ty=>by
  have:=run_append_room_src w 26 26 ty 9 i0 Tryz.underlying26 hi0 b off n c _ m vs hsrc hroom (by simp only[hzs,hvl,Nat.mul_one]; exact hsp) (by simp only[hzs,hvl,Nat.mul_one]; exact hfz)
  simp only[hzs,Nat.mul_one]at this
  exact this
 go_enter Tryz.func97,Tryz.ntmps97
 go_wp2_with (at_builtin; refine Lib.wpList_append_run _ rfl _ _ _ _ rfl _ _ rfl rfl _ _ (hrun _) ?_)
 go_ret
 exact⟨rfl,rfl⟩
set_option maxHeartbeats 4000000 in
set_option maxRecDepth 100000 in
theorem insS_end_grow (base:Option Addr)(n c vb voff m vc:Nat)(cs vs:List Value)(w:World)(hm:0<m)(hnc:n<=c)(hroom:c<n+m)(hbig:(n+m)*16<=140737488355328)
  (hcl:cs.length=n) (hvl:vs.length=m) (hnil:base=none->n=0)
  (hcs:∀a,base=some a->∀j v,cs[j]? = some v->w.cell? (a.add j)=some v)
  (hvs:∀j v,vs[j]? = some v->w.cell? ⟨vb,voff+j,none⟩=some v) (h1v:∀v∈vs,v.oneCell'=true) :
  Calls Tryz.prog 97 #[.slice base n c,.int .i64 n,.slice (some ⟨vb,voff,none⟩) m vc] w fun e w'=>
   e = .returned (.slice (some ⟨w.heap.size,0,none⟩) (n+m) (grownCap w (n+m) c 9)) /\
   w'=w.drew.alloc (.cells ((cs++vs).toArray++Builtin.zeroCells (.string ⟨#[]⟩:Value).cells (grownCap w (n+m) c 9-(n+m))) 9):=by
 have mixed:Tryz.prog.follows .mixedOrders=true:=by kernel_rfl
 obtain⟨i0,hi0,hz0,hzs,hzb⟩:=insS_info
 have hz1:¬((m:Int)=0):=by omega
 have hsrc:Src Tryz.prog i0.size 26 (.slice (some ⟨vb,voff,none⟩) m vc) m vs w:=by
  rw[hzs]
  exact Src.ofSlice w Tryz.underlying26 ⟨vb,voff,none⟩ m vc vs (by omega) (fun j u hj=>by rw[Addr.add_lit]; exact hvs j u hj) h1v
 have hold:(Builtin.firstCells i0.size n (.slice base n c)).run Tryz.prog w.drew = .ok cs.toArray w.drew:=by
  rw[hzs]
  cases base with
  |none=>
   have h0:=hnil rfl
   subst h0
   have hc0:cs=[]:=List.length_eq_zero_iff.1 (by omega)
   rw[hc0]
   exact run_firstCells_none w.drew 1 0 0 c
  |some a=>exact run_firstCells_some w.drew 1 n a n c cs (by omega) (fun j v hj=>hcs a rfl j v hj)
 have hrun:∀ty,(Builtin.append_ #[26,26] ty #[.slice base n c,.slice (some ⟨vb,voff,none⟩) m vc]).run Tryz.prog w=_:=fun ty=>
  run_append_grow_src w 26 26 ty 9 i0 _ Tryz.underlying26 hi0 hz0 base n c cs hold _ m vs hsrc hroom (by omega) (by rw[hzb]; exact growslice_fits hroom hbig)
 go_enter Tryz.func97,Tryz.ntmps97
 cases base with
 |none=>
  have h0:=hnil rfl
  subst h0
  go_wp2_with (at_builtin; refine Lib.wpList_append_run _ rfl _ _ _ _ rfl _ _ rfl rfl _ _ (hrun _) ?_)
  go_ret
  exact⟨rfl,rfl⟩
 |some a=>
  obtain⟨ab,ao,asp⟩:=a
  go_wp2_with (at_builtin; refine Lib.wpList_append_run _ rfl _ _ _ _ rfl _ _ rfl rfl _ _ (hrun _) ?_)
  all_goals (go_ret; exact⟨rfl,rfl⟩)
set_option maxHeartbeats 4000000 in
set_option maxRecDepth 100000 in
theorem insS_grow (b off n c i vb voff m vc:Nat)(cs vs:List Value)(w:World)(hi:i<n)(hm:0<m)(hnc:n<=c)(hroom:c<n+m)(hbig:(n+m)*16<=140737488355328)
  (hcl:cs.length=n) (hvl:vs.length=m)
  (hcs:∀j v,cs[j]? = some v->w.cell? ⟨b,off+j,none⟩=some v)
  (hvs:∀j v,vs[j]? = some v->w.cell? ⟨vb,voff+j,none⟩=some v) (h1c:∀v∈cs,v.oneCell'=true) (h1v:∀v∈vs,v.oneCell'=true) :
  Calls Tryz.prog 97 #[.slice (some ⟨b,off,none⟩) n c,.int .i64 i,.slice (some ⟨vb,voff,none⟩) m vc] w fun e w'=>
   e = .returned (.slice (some ⟨w.heap.size,0,none⟩) (n+m) (grownCap w (n+m) c 9)) /\
   w'=(((w.alloc (.cells ((cs.take (i)).toArray++Builtin.zeroCells (.string ⟨#[]⟩:Value).cells (n+m-i)++Builtin.zeroCells (.string ⟨#[]⟩:Value).cells (grownCap w (n+m) c 9-(n+m))) 9)).drew.setCells w.heap.size (i) vs).drew).setCells w.heap.size ((i+m)) (cs.drop (i)):=by
 have mixed:Tryz.prog.follows .mixedOrders=true:=by kernel_rfl
 obtain⟨i0,hi0,hz0,hzs,hzb⟩:=insS_info
 have hz1:¬((m:Int)=0):=by omega
 have hz2:¬((i:Int)=(n:Int)):=by omega
 have hz3:(c:Int)<(n:Int)+(m:Int):=by omega
 have hsz:(Tryz.prog.info? 9).map (·.size)=some 1:=by rw[hi0]; simp[hzs]
 have hbw:b<w.heap.size:=block_lt_of_cell (hcs 0 _ (List.getElem?_eq_getElem (by omega)))
 have hvw:vb<w.heap.size:=block_lt_of_cell (hvs 0 _ (List.getElem?_eq_getElem (by omega)))
 have hkk:(n:Int)+(m:Int)-(i:Int)=((n+m-i:Nat):Int):=by omega
 have hik:i+(n+m-i)=n+m:=by omega
 have hold:(Builtin.firstCells i0.size i (.slice (some ⟨b,off,none⟩) i c)).run Tryz.prog w.drew = .ok (cs.take (i)).toArray w.drew:=by
  rw[hzs]
  exact run_firstCells_some w.drew 1 i ⟨b,off,none⟩ i c (cs.take (i)) (by rw[List.length_take]; omega) (fun j v hj=>by
   rw[Addr.add_lit]
   rw[List.getElem?_take]at hj
   split at hj
   ·exact hcs j v hj
   ·cases hj)
 have hrz:∀ty,(Builtin.append_ #[26,3] ty #[.slice (some ⟨b,off,none⟩) i c,.int .i64 ((n:Int)+(m:Int)-(i:Int))]).run Tryz.prog w =
   .ok (.slice (some ⟨w.heap.size,0,none⟩) (n+m) (grownCap w (n+m) c 9)) (w.drew.alloc (.cells ((cs.take (i)).toArray++Builtin.zeroCells (.string ⟨#[]⟩:Value).cells (n+m-i)++Builtin.zeroCells (.string ⟨#[]⟩:Value).cells (grownCap w (n+m) c 9-(n+m))) 9)):=fun ty=>by
  have h:=Lib.run_append_grow_zeros w 26 3 ty 9 i0 _ .i64 .i64 Tryz.underlying26 Tryz.underlying3 hi0 hz0 (some ⟨b,off,none⟩) i c (cs.take (i)) hold (n+m-i) (by omega) (by omega) (by omega) (by omega) (by rw[hzb]; omega) (by rw[hzb,hik]; exact growslice_fits hroom hbig)
  rw[hik]at h
  rw[hkk]
  exact h
 obtain⟨G,hG⟩:∃G,G=grownCap w (n+m) c 9:=⟨_,rfl⟩
 obtain⟨ROW,hROW⟩:∃ROW:Array Value,ROW=(cs.take (i)).toArray++Builtin.zeroCells (.string ⟨#[]⟩:Value).cells (n+m-i)++Builtin.zeroCells (.string ⟨#[]⟩:Value).cells (G-(n+m)):=⟨_,rfl⟩
 rw[<-hG]at hrz ⊢
 rw[<-hROW]at hrz ⊢
 have hRl:(n+m)<=ROW.size:=by
  rw[hROW]
  simp[Builtin.zeroCells,Value.cells]
  omega
 obtain⟨W1,hW1⟩:∃W1,W1=w.drew.alloc (.cells ROW 9):=⟨_,rfl⟩
 rw[<-hW1]at hrz
 have hN:∀j,j<(n+m)->(W1.cell? ⟨w.heap.size,j,none⟩).isSome=true:=fun j hj=>by
  rw[hW1,World.cell?_alloc_at (w:=w.drew) ROW _ w.heap.size j rfl,Array.getElem?_eq_getElem (by omega)]; rfl
 have hNf:∀j,W1.frozen? ⟨w.heap.size,j,none⟩=false:=fun j=>by rw[hW1]; exact World.frozen?_alloc_at (w:=w.drew) ROW _ w.heap.size j rfl
 have hOb:∀j v,w.cell? ⟨b,j,none⟩=some v->W1.cell? ⟨b,j,none⟩=some v:=fun j v h=>by rw[hW1,World.cell?_alloc_past (w:=w.drew) _ b j hbw]; exact h
 have hOv:∀j v,w.cell? ⟨vb,j,none⟩=some v->W1.cell? ⟨vb,j,none⟩=some v:=fun j v h=>by rw[hW1,World.cell?_alloc_past (w:=w.drew) _ vb j hvw]; exact h
 have hcpA:∀(W:World),(∀x,W.cell? x=W1.cell? x)->(∀x,W.frozen? x=W1.frozen? x)->∀ty dc,(Builtin.copy_ #[26,26] ty #[.slice (some ⟨w.heap.size,i,none⟩) (n+m-i) dc,.slice (some ⟨vb,voff,none⟩) m vc]).run Tryz.prog W = .ok (goInt (Nat.min m (n+m-i))) (W.setCells w.heap.size (i) vs):=fun W hWc hWf ty dc=>
  run_copy_cellsN W _ _ ty 9 1 w.heap.size (i) (n+m-i) dc ⟨vb,voff,none⟩ m vc vs Tryz.underlying26 hsz (by rw[hvl]; simp only[Nat.min_def]; split<;>omega)
   (fun j v hj=>by rw[Addr.add_lit,hWc]; exact hOv _ v (hvs j v hj))
   (fun j hj=>by rw[hWc]; exact hN _ (by omega)) (fun j hj=>by rw[hWf]; exact hNf _) h1v
 have hGn:n+m<=G:=by rw[hG]; exact grownCap_ge w _ _ _
 have hG63:G<=9223372036854775807:=by
  have:=grownCap_le_maxLen w (n+m) c 9 (by unfold maxLen; omega)
  rw[<-hG]at this
  unfold maxLen at this
  omega
 have hGi:¬(G=i):=by omega
 have hGim:¬(G=i+m):=by omega
 have hci:¬(c=i):=by omega
 have hbN:b≠w.heap.size:=by omega
 have hdl:(cs.drop (i)).length=(n-i):=by have:=List.length_drop (i:=i) (l:=cs); omega
 have hcpB:∀(W:World),(∀x,W.cell? x=(W1.setCells w.heap.size (i) vs).cell? x)->(∀x,W.frozen? x=(W1.setCells w.heap.size (i) vs).frozen? x)->∀ty dc sc,(Builtin.copy_ #[26,26] ty #[.slice (some ⟨w.heap.size,(i+m),none⟩) (n+m-(i+m)) dc,.slice (some ⟨b,off+i,none⟩) (n-i) sc]).run Tryz.prog W = .ok (goInt (Nat.min (n-i) (n+m-(i+m)))) (W.setCells w.heap.size ((i+m)) (cs.drop (i))):=fun W hWc hWf ty dc sc=>
  run_copy_cellsN W _ _ ty 9 1 w.heap.size ((i+m)) (n+m-(i+m)) dc ⟨b,off+i,none⟩ (n-i) sc (cs.drop (i)) Tryz.underlying26 hsz (by rw[hdl]; simp only[Nat.min_def]; split<;>omega)
   (fun j v hj=>by
    rw[Addr.add_lit,hWc,World.cell?_setCells_out _ _ _ _ _ (fun h _=>absurd h hbN),Nat.add_assoc]
    exact hOb _ v (hcs (i+j) v (by rwa [List.getElem?_drop]at hj)))
   (fun j hj=>by rw[hWc]; exact isSome_setCells _ _ _ _ (fun t ht=>hN _ (by omega)) _ (hN _ (by omega)))
   (fun j hj=>by rw[hWf,World.frozen?_setCells]; exact hNf _) (fun v hv=>h1c v (List.mem_of_mem_drop hv))
 subst hW1
 have hE1:∀x,((w.alloc (.cells ROW 9)).drew).cell? x=(w.drew.alloc (.cells ROW 9)).cell? x:=fun x=>rfl
 have hE2:∀x,((w.alloc (.cells ROW 9)).drew).frozen? x=(w.drew.alloc (.cells ROW 9)).frozen? x:=fun x=>rfl
 have hF1:∀x,(((w.alloc (.cells ROW 9)).drew.setCells w.heap.size (i) vs).drew).cell? x=((w.drew.alloc (.cells ROW 9)).setCells w.heap.size (i) vs).cell? x:=fun x=>rfl
 have hF2:∀x,(((w.alloc (.cells ROW 9)).drew.setCells w.heap.size (i) vs).drew).frozen? x=((w.drew.alloc (.cells ROW 9)).setCells w.heap.size (i) vs).frozen? x:=fun x=>rfl
 have hw1:IntKind.i64.wrap ((i:Int)+(m:Int))=(i:Int)+(m:Int):=by rw[IntKind.wrap_i64]; omega
 have hb1:(0:Int)<=(i:Int)+(m:Int):=by omega
 have hin:i<=n:=by omega
 have htn:((i:Int)+(m:Int)).toNat=i+m:=by omega
 have hb3:(i:Int)<=(n:Int):=by omega
 clear hkk hik hold hROW hG hRl
 go_enter Tryz.func97,Tryz.ntmps97
 go_wp2_with (first
  |(at_builtin; refine Lib.wpList_append_run _ rfl _ _ _ _ rfl _ _ rfl rfl _ _ (hrz _) ?_)
  |(at_builtin; refine wpList_copy_runI _ rfl _ _ 26 26 rfl _ _ rfl rfl (hcpA _ hE1 hE2 _ _) ?_)
  |(at_builtin; refine wpList_copy_runI _ rfl _ _ 26 26 rfl _ _ rfl rfl (hcpB _ (fun _=>rfl) (fun _=>rfl) _ _ _) ?_))
 go_region_law_o (refine step_copy_runI rfl _ _ 26 26 rfl (.slice (some ⟨w.heap.size,(i+m),none⟩) (n+m-(i+m)) (G-(i+m))) (.slice (some ⟨b,off+i,none⟩) (n-i) (c-i)) (by simp[Act.eval,Act.put]) (by simp[Act.eval,Act.put]) (hcpB _ hF1 hF2 3 (G-(i+m)) (c-i)) ?_)
 go_wp2
 go_ret
 exact⟨rfl,rfl⟩
end Go.Proofs.YtcgmpcbkndpmbaaGreatDoor

end
section
open Go Go.Proofs Go.RowKit Go.Lib
namespace Go.Proofs.YtcgmpcbkndpmbaaGreatDoor
set_option maxRecDepth 4000
set_option linter.unusedVariables false
set_option linter.unusedSimpArgs false
theorem insV_info:∃i0,Tryz.prog.info? 33=some i0/\i0.zero=some (.agg #[.int .i64 0,.bool false,.int .i64 0,.string ⟨#[]⟩,.slice none 0 0,.slice none 0 0])/\i0.size=6/\i0.bytes=88:=⟨_,rfl,rfl,rfl,rfl⟩
set_option maxHeartbeats 4000000 in
set_option maxRecDepth 100000 in
theorem insV_shift (b off n c i vb voff m vc:Nat)(cs vs:List Value)(w:World)(hi:i<n)(hm:0<m)(hroom:n+m<=c)(hc63:c<=9223372036854775807)(hvb:vb≠b)
  (hcl:cs.length=n*6) (hvl:vs.length=m*6)
  (hcs:∀j v,cs[j]? = some v->w.cell? ⟨b,off+j,none⟩=some v) (hsp:∀j,j<(n+m)*6->(w.cell? ⟨b,off+j,none⟩).isSome=true) (hfz:∀j,j<(n+m)*6->w.frozen? ⟨b,off+j,none⟩=false)
  (hvs:∀j v,vs[j]? = some v->w.cell? ⟨vb,voff+j,none⟩=some v) (h1c:∀v∈cs,v.oneCell'=true) (h1v:∀v∈vs,v.oneCell'=true)
  (tA tB:TypeId) (kA kB:Nat) (hsa:w.shape? vb=some (tA,kA)) (hsb:w.shape? b=some (tB,kB)) (hkB:kB≠0) (hfa:w.frozen? ⟨vb,voff,none⟩=false) (hfe:w.frozen? ⟨vb,kA,none⟩=false) :
  Calls Tryz.prog 98 #[.slice (some ⟨b,off,none⟩) n c,.int .i64 i,.slice (some ⟨vb,voff,none⟩) m vc] w fun e w'=>
   e = .returned (.slice (some ⟨b,off,none⟩) (n+m) c)/\w'=(w.drew.setCells b (off+(i+m)*6) (cs.drop (i*6))).setCells b (off+i*6) vs:=by
 have hz1:¬((m:Int)=0):=by omega
 have hz2:¬((i:Int)=(n:Int)):=by omega
 obtain⟨i0,hi0,hz0,hzs,hzb⟩:=insV_info
 have hsz:(Tryz.prog.info? 33).map (·.size)=some 6:=by rw[hi0]; simp[hzs]
 have hov:∀lb cb,(callFunc 116 #[.slice (some ⟨vb,voff,none⟩) m vc,.slice (some ⟨b,off+(i+m)*6,none⟩) lb cb]).run Tryz.prog w = .ok (.value (.bool false)) w:=fun lb cb=>by
  rw[run_callFunc_extern Tryz.func116 (by kernel_rfl) (by kernel_rfl) (by kernel_rfl) (e:=Extern.SlicesOverlaps.overlaps #[31,31] #[4]) (by kernel_rfl),
   Lib.run_overlaps_apart w 31 4 33 Tryz.underlying31 6 (fun w=>by simp[sizeOf,typeInfo,hi0,hzs]) ⟨vb,voff,none⟩ ⟨b,off+(i+m)*6,none⟩ m vc lb cb hvb tA tB kA kB hsa hsb hkB hfa hfe]
  rfl
 have hdl:(cs.drop (i*6)).length=(n-i)*6:=by have:=List.length_drop (i:=i*6) (l:=cs); omega
 have mixed:Tryz.prog.follows .mixedOrders=true:=by kernel_rfl
 have hw1:IntKind.i64.wrap ((i:Int)+(m:Int))=(i:Int)+(m:Int):=by rw[IntKind.wrap_i64]; omega
 have hb1:(0:Int)<=(i:Int)+(m:Int):=by omega
 have hin:i<=n:=by omega
 have htn:((i:Int)+(m:Int)).toNat=i+m:=by omega
 have hb2:¬(c=i+m):=by omega
 have hb3:(i:Int)<=(n:Int)+(m:Int):=by omega
 have hb4:¬(c=i):=by omega
 have hcp1:∀ty dc sc,(Builtin.copy_ #[31,31] ty #[.slice (some ⟨b,off+(i+m)*6,none⟩) (n+m-(i+m)) dc,.slice (some ⟨b,off+i*6,none⟩) (n+m-i) sc]).run Tryz.prog w.drew = .ok (goInt (Nat.min (n+m-i) (n+m-(i+m)))) (w.drew.setCells b (off+(i+m)*6) (cs.drop (i*6))):=fun ty dc sc=>
  run_copy_cellsN w.drew _ _ ty 33 6 b (off+(i+m)*6) (n+m-(i+m)) dc ⟨b,off+i*6,none⟩ (n+m-i) sc (cs.drop (i*6)) Tryz.underlying31 hsz (by rw[hdl]; simp only[Nat.min_def]; split<;>omega)
   (fun j v hj=>by rw[Addr.add_lit,Nat.add_assoc]; exact hcs (i*6+j) v (by rwa [List.getElem?_drop]at hj))
   (fun j hj=>by rw[Nat.add_assoc]; exact hsp _ (by omega)) (fun j hj=>by rw[Nat.add_assoc]; exact hfz _ (by omega)) (fun v hv=>h1c v (List.mem_of_mem_drop hv))
 obtain⟨W1,hW1⟩:∃W1,W1=w.drew.setCells b (off+(i+m)*6) (cs.drop (i*6)):=⟨_,rfl⟩
 have hsp1:∀k,k<(n+m)*6->(W1.cell? ⟨b,off+k,none⟩).isSome=true:=fun k hk=>by
  rw[hW1]
  exact isSome_setCells b _ _ _ (fun j hj=>by rw[Nat.add_assoc]; exact hsp _ (by omega)) _ (hsp k hk)
 have hcp2:∀(W:World),(∀x,W.cell? x=W1.cell? x)->(∀x,W.frozen? x=W1.frozen? x)->∀ty dc,(Builtin.copy_ #[31,31] ty #[.slice (some ⟨b,off+i*6,none⟩) (n+m-i) dc,.slice (some ⟨vb,voff,none⟩) m vc]).run Tryz.prog W = .ok (goInt (Nat.min m (n+m-i))) (W.setCells b (off+i*6) vs):=fun W hWc hWf ty dc=>
  run_copy_cellsN W _ _ ty 33 6 b (off+i*6) (n+m-i) dc ⟨vb,voff,none⟩ m vc vs Tryz.underlying31 hsz (by rw[hvl]; simp only[Nat.min_def]; split<;>omega)
   (fun j v hj=>by
    rw[Addr.add_lit,hWc,hW1,World.cell?_setCells_out b _ _ _ _ (fun h _=>absurd h hvb)]
    exact hvs j v hj)
   (fun j hj=>by rw[hWc,Nat.add_assoc]; exact hsp1 _ (by omega)) (fun j hj=>by rw[hWf,hW1,World.frozen?_setCells,Nat.add_assoc]; exact hfz _ (by omega)) h1v
 rw[<-hW1]at hcp1
 go_enter Tryz.func98,Tryz.ntmps98
 go_wp2_with (simp only[hov])
 go_region_law_o (refine step_copy_runI rfl _ _ 31 31 rfl _ _ (by simp[Act.eval,Act.put]) (by simp[Act.eval,Act.put]) (hcp1 _ _ _) ?_)
 go_wp2_with (at_builtin; refine wpList_copy_runI _ rfl _ _ 31 31 rfl _ _ rfl rfl (hcp2 _ (fun _=>rfl) (fun _=>rfl) _ _) ?_)
 go_ret
 first|exact⟨rfl,rfl⟩|exact⟨rfl,by rw[hW1]⟩
set_option maxHeartbeats 4000000 in
set_option maxRecDepth 100000 in
theorem insV_end_room (b off n c vb voff m vc:Nat)(vs:List Value)(w:World)(hm:0<m)(hroom:n+m<=c)(hc63:c<=9223372036854775807)
  (hvl:vs.length=m*6) (hsp:∀j,j<m*6->(w.cell? ⟨b,off+n*6+j,none⟩).isSome=true) (hfz:∀j,j<m*6->w.frozen? ⟨b,off+n*6+j,none⟩=false)
  (hvs:∀j v,vs[j]? = some v->w.cell? ⟨vb,voff+j,none⟩=some v) (h1v:∀v∈vs,v.oneCell'=true) :
  Calls Tryz.prog 98 #[.slice (some ⟨b,off,none⟩) n c,.int .i64 n,.slice (some ⟨vb,voff,none⟩) m vc] w fun e w'=>
   e = .returned (.slice (some ⟨b,off,none⟩) (n+m) c)/\w'=w.setCells b (off+n*6) vs:=by
 have mixed:Tryz.prog.follows .mixedOrders=true:=by kernel_rfl
 obtain⟨i0,hi0,hz0,hzs,hzb⟩:=insV_info
 have hz1:¬((m:Int)=0):=by omega
 have hsrc:Src Tryz.prog i0.size 31 (.slice (some ⟨vb,voff,none⟩) m vc) m vs w:=by
  rw[hzs]
  exact Src.ofSlice w Tryz.underlying31 ⟨vb,voff,none⟩ m vc vs (by omega) (fun j u hj=>by rw[Addr.add_lit]; exact hvs j u hj) h1v
 have hrun:∀ty,(Builtin.append_ #[31,31] ty #[.slice (some ⟨b,off,none⟩) n c,.slice (some ⟨vb,voff,none⟩) m vc]).run Tryz.prog w = .ok (.slice (some ⟨b,off,none⟩) (n+m) c) (w.setCells b (off+n*6) vs):=fun ty=>by
  have:=run_append_room_src w 31 31 ty 33 i0 Tryz.underlying31 hi0 b off n c _ m vs hsrc hroom (by simp only[hzs,hvl,Nat.mul_one]; exact hsp) (by simp only[hzs,hvl,Nat.mul_one]; exact hfz)
  simp only[hzs,Nat.mul_one]at this
  exact this
 go_enter Tryz.func98,Tryz.ntmps98
 go_wp2_with (at_builtin; refine Lib.wpList_append_run _ rfl _ _ _ _ rfl _ _ rfl rfl _ _ (hrun _) ?_)
 go_ret
 exact⟨rfl,rfl⟩
set_option maxHeartbeats 4000000 in
set_option maxRecDepth 100000 in
theorem insV_end_grow (base:Option Addr)(n c vb voff m vc:Nat)(cs vs:List Value)(w:World)(hm:0<m)(hnc:n<=c)(hroom:c<n+m)(hbig:(n+m)*88<=140737488355328)
  (hcl:cs.length=n*6) (hvl:vs.length=m*6) (hnil:base=none->n=0)
  (hcs:∀a,base=some a->∀j v,cs[j]? = some v->w.cell? (a.add j)=some v)
  (hvs:∀j v,vs[j]? = some v->w.cell? ⟨vb,voff+j,none⟩=some v) (h1v:∀v∈vs,v.oneCell'=true) :
  Calls Tryz.prog 98 #[.slice base n c,.int .i64 n,.slice (some ⟨vb,voff,none⟩) m vc] w fun e w'=>
   e = .returned (.slice (some ⟨w.heap.size,0,none⟩) (n+m) (grownCap w (n+m) c 33)) /\
   w'=w.drew.alloc (.cells ((cs++vs).toArray++Builtin.zeroCells (.agg #[.int .i64 0,.bool false,.int .i64 0,.string ⟨#[]⟩,.slice none 0 0,.slice none 0 0]:Value).cells (grownCap w (n+m) c 33-(n+m))) 33):=by
 have mixed:Tryz.prog.follows .mixedOrders=true:=by kernel_rfl
 obtain⟨i0,hi0,hz0,hzs,hzb⟩:=insV_info
 have hz1:¬((m:Int)=0):=by omega
 have hsrc:Src Tryz.prog i0.size 31 (.slice (some ⟨vb,voff,none⟩) m vc) m vs w:=by
  rw[hzs]
  exact Src.ofSlice w Tryz.underlying31 ⟨vb,voff,none⟩ m vc vs (by omega) (fun j u hj=>by rw[Addr.add_lit]; exact hvs j u hj) h1v
 have hold:(Builtin.firstCells i0.size n (.slice base n c)).run Tryz.prog w.drew = .ok cs.toArray w.drew:=by
  rw[hzs]
  cases base with
  |none=>
   have h0:=hnil rfl
   subst h0
   have hc0:cs=[]:=List.length_eq_zero_iff.1 (by omega)
   rw[hc0]
   exact run_firstCells_none w.drew 6 0 0 c
  |some a=>exact run_firstCells_some w.drew 6 n a n c cs (by omega) (fun j v hj=>hcs a rfl j v hj)
 have hrun:∀ty,(Builtin.append_ #[31,31] ty #[.slice base n c,.slice (some ⟨vb,voff,none⟩) m vc]).run Tryz.prog w=_:=fun ty=>
  run_append_grow_src w 31 31 ty 33 i0 _ Tryz.underlying31 hi0 hz0 base n c cs hold _ m vs hsrc hroom (by omega) (by rw[hzb]; exact growslice_fits hroom hbig)
 go_enter Tryz.func98,Tryz.ntmps98
 cases base with
 |none=>
  have h0:=hnil rfl
  subst h0
  go_wp2_with (at_builtin; refine Lib.wpList_append_run _ rfl _ _ _ _ rfl _ _ rfl rfl _ _ (hrun _) ?_)
  go_ret
  exact⟨rfl,rfl⟩
 |some a=>
  obtain⟨ab,ao,asp⟩:=a
  go_wp2_with (at_builtin; refine Lib.wpList_append_run _ rfl _ _ _ _ rfl _ _ rfl rfl _ _ (hrun _) ?_)
  all_goals (go_ret; exact⟨rfl,rfl⟩)
set_option maxHeartbeats 4000000 in
set_option maxRecDepth 100000 in
theorem insV_grow (b off n c i vb voff m vc:Nat)(cs vs:List Value)(w:World)(hi:i<n)(hm:0<m)(hnc:n<=c)(hroom:c<n+m)(hbig:(n+m)*88<=140737488355328)
  (hcl:cs.length=n*6) (hvl:vs.length=m*6)
  (hcs:∀j v,cs[j]? = some v->w.cell? ⟨b,off+j,none⟩=some v)
  (hvs:∀j v,vs[j]? = some v->w.cell? ⟨vb,voff+j,none⟩=some v) (h1c:∀v∈cs,v.oneCell'=true) (h1v:∀v∈vs,v.oneCell'=true) :
  Calls Tryz.prog 98 #[.slice (some ⟨b,off,none⟩) n c,.int .i64 i,.slice (some ⟨vb,voff,none⟩) m vc] w fun e w'=>
   e = .returned (.slice (some ⟨w.heap.size,0,none⟩) (n+m) (grownCap w (n+m) c 33)) /\
   w'=(((w.alloc (.cells ((cs.take (i*6)).toArray++Builtin.zeroCells (.agg #[.int .i64 0,.bool false,.int .i64 0,.string ⟨#[]⟩,.slice none 0 0,.slice none 0 0]:Value).cells (n+m-i)++Builtin.zeroCells (.agg #[.int .i64 0,.bool false,.int .i64 0,.string ⟨#[]⟩,.slice none 0 0,.slice none 0 0]:Value).cells (grownCap w (n+m) c 33-(n+m))) 33)).drew.setCells w.heap.size (i*6) vs).drew).setCells w.heap.size ((i+m)*6) (cs.drop (i*6)):=by
 have mixed:Tryz.prog.follows .mixedOrders=true:=by kernel_rfl
 obtain⟨i0,hi0,hz0,hzs,hzb⟩:=insV_info
 have hz1:¬((m:Int)=0):=by omega
 have hz2:¬((i:Int)=(n:Int)):=by omega
 have hz3:(c:Int)<(n:Int)+(m:Int):=by omega
 have hsz:(Tryz.prog.info? 33).map (·.size)=some 6:=by rw[hi0]; simp[hzs]
 have hbw:b<w.heap.size:=block_lt_of_cell (hcs 0 _ (List.getElem?_eq_getElem (by omega)))
 have hvw:vb<w.heap.size:=block_lt_of_cell (hvs 0 _ (List.getElem?_eq_getElem (by omega)))
 have hkk:(n:Int)+(m:Int)-(i:Int)=((n+m-i:Nat):Int):=by omega
 have hik:i+(n+m-i)=n+m:=by omega
 have hold:(Builtin.firstCells i0.size i (.slice (some ⟨b,off,none⟩) i c)).run Tryz.prog w.drew = .ok (cs.take (i*6)).toArray w.drew:=by
  rw[hzs]
  exact run_firstCells_some w.drew 6 i ⟨b,off,none⟩ i c (cs.take (i*6)) (by rw[List.length_take]; omega) (fun j v hj=>by
   rw[Addr.add_lit]
   rw[List.getElem?_take]at hj
   split at hj
   ·exact hcs j v hj
   ·cases hj)
 have hrz:∀ty,(Builtin.append_ #[31,3] ty #[.slice (some ⟨b,off,none⟩) i c,.int .i64 ((n:Int)+(m:Int)-(i:Int))]).run Tryz.prog w =
   .ok (.slice (some ⟨w.heap.size,0,none⟩) (n+m) (grownCap w (n+m) c 33)) (w.drew.alloc (.cells ((cs.take (i*6)).toArray++Builtin.zeroCells (.agg #[.int .i64 0,.bool false,.int .i64 0,.string ⟨#[]⟩,.slice none 0 0,.slice none 0 0]:Value).cells (n+m-i)++Builtin.zeroCells (.agg #[.int .i64 0,.bool false,.int .i64 0,.string ⟨#[]⟩,.slice none 0 0,.slice none 0 0]:Value).cells (grownCap w (n+m) c 33-(n+m))) 33)):=fun ty=>by
  have h:=Lib.run_append_grow_zeros w 31 3 ty 33 i0 _ .i64 .i64 Tryz.underlying31 Tryz.underlying3 hi0 hz0 (some ⟨b,off,none⟩) i c (cs.take (i*6)) hold (n+m-i) (by omega) (by omega) (by omega) (by omega) (by rw[hzb]; omega) (by rw[hzb,hik]; exact growslice_fits hroom hbig)
  rw[hik]at h
  rw[hkk]
  exact h
 obtain⟨G,hG⟩:∃G,G=grownCap w (n+m) c 33:=⟨_,rfl⟩
 obtain⟨ROW,hROW⟩:∃ROW:Array Value,ROW=(cs.take (i*6)).toArray++Builtin.zeroCells (.agg #[.int .i64 0,.bool false,.int .i64 0,.string ⟨#[]⟩,.slice none 0 0,.slice none 0 0]:Value).cells (n+m-i)++Builtin.zeroCells (.agg #[.int .i64 0,.bool false,.int .i64 0,.string ⟨#[]⟩,.slice none 0 0,.slice none 0 0]:Value).cells (G-(n+m)):=⟨_,rfl⟩
 rw[<-hG]at hrz ⊢
 rw[<-hROW]at hrz ⊢
 have hRl:(n+m)*6<=ROW.size:=by
  rw[hROW]
  simp[Builtin.zeroCells,Value.cells]
  omega
 obtain⟨W1,hW1⟩:∃W1,W1=w.drew.alloc (.cells ROW 33):=⟨_,rfl⟩
 rw[<-hW1]at hrz
 have hN:∀j,j<(n+m)*6->(W1.cell? ⟨w.heap.size,j,none⟩).isSome=true:=fun j hj=>by
  rw[hW1,World.cell?_alloc_at (w:=w.drew) ROW _ w.heap.size j rfl,Array.getElem?_eq_getElem (by omega)]; rfl
 have hNf:∀j,W1.frozen? ⟨w.heap.size,j,none⟩=false:=fun j=>by rw[hW1]; exact World.frozen?_alloc_at (w:=w.drew) ROW _ w.heap.size j rfl
 have hOb:∀j v,w.cell? ⟨b,j,none⟩=some v->W1.cell? ⟨b,j,none⟩=some v:=fun j v h=>by rw[hW1,World.cell?_alloc_past (w:=w.drew) _ b j hbw]; exact h
 have hOv:∀j v,w.cell? ⟨vb,j,none⟩=some v->W1.cell? ⟨vb,j,none⟩=some v:=fun j v h=>by rw[hW1,World.cell?_alloc_past (w:=w.drew) _ vb j hvw]; exact h
 have hcpA:∀(W:World),(∀x,W.cell? x=W1.cell? x)->(∀x,W.frozen? x=W1.frozen? x)->∀ty dc,(Builtin.copy_ #[31,31] ty #[.slice (some ⟨w.heap.size,i*6,none⟩) (n+m-i) dc,.slice (some ⟨vb,voff,none⟩) m vc]).run Tryz.prog W = .ok (goInt (Nat.min m (n+m-i))) (W.setCells w.heap.size (i*6) vs):=fun W hWc hWf ty dc=>
  run_copy_cellsN W _ _ ty 33 6 w.heap.size (i*6) (n+m-i) dc ⟨vb,voff,none⟩ m vc vs Tryz.underlying31 hsz (by rw[hvl]; simp only[Nat.min_def]; split<;>omega)
   (fun j v hj=>by rw[Addr.add_lit,hWc]; exact hOv _ v (hvs j v hj))
   (fun j hj=>by rw[hWc]; exact hN _ (by omega)) (fun j hj=>by rw[hWf]; exact hNf _) h1v
 have hGn:n+m<=G:=by rw[hG]; exact grownCap_ge w _ _ _
 have hG63:G<=9223372036854775807:=by
  have:=grownCap_le_maxLen w (n+m) c 33 (by unfold maxLen; omega)
  rw[<-hG]at this
  unfold maxLen at this
  omega
 have hGi:¬(G=i):=by omega
 have hGim:¬(G=i+m):=by omega
 have hci:¬(c=i):=by omega
 have hbN:b≠w.heap.size:=by omega
 have hdl:(cs.drop (i*6)).length=(n-i)*6:=by have:=List.length_drop (i:=i*6) (l:=cs); omega
 have hcpB:∀(W:World),(∀x,W.cell? x=(W1.setCells w.heap.size (i*6) vs).cell? x)->(∀x,W.frozen? x=(W1.setCells w.heap.size (i*6) vs).frozen? x)->∀ty dc sc,(Builtin.copy_ #[31,31] ty #[.slice (some ⟨w.heap.size,(i+m)*6,none⟩) (n+m-(i+m)) dc,.slice (some ⟨b,off+i*6,none⟩) (n-i) sc]).run Tryz.prog W = .ok (goInt (Nat.min (n-i) (n+m-(i+m)))) (W.setCells w.heap.size ((i+m)*6) (cs.drop (i*6))):=fun W hWc hWf ty dc sc=>
  run_copy_cellsN W _ _ ty 33 6 w.heap.size ((i+m)*6) (n+m-(i+m)) dc ⟨b,off+i*6,none⟩ (n-i) sc (cs.drop (i*6)) Tryz.underlying31 hsz (by rw[hdl]; simp only[Nat.min_def]; split<;>omega)
   (fun j v hj=>by
    rw[Addr.add_lit,hWc,World.cell?_setCells_out _ _ _ _ _ (fun h _=>absurd h hbN),Nat.add_assoc]
    exact hOb _ v (hcs (i*6+j) v (by rwa [List.getElem?_drop]at hj)))
   (fun j hj=>by rw[hWc]; exact isSome_setCells _ _ _ _ (fun t ht=>hN _ (by omega)) _ (hN _ (by omega)))
   (fun j hj=>by rw[hWf,World.frozen?_setCells]; exact hNf _) (fun v hv=>h1c v (List.mem_of_mem_drop hv))
 subst hW1
 have hE1:∀x,((w.alloc (.cells ROW 33)).drew).cell? x=(w.drew.alloc (.cells ROW 33)).cell? x:=fun x=>rfl
 have hE2:∀x,((w.alloc (.cells ROW 33)).drew).frozen? x=(w.drew.alloc (.cells ROW 33)).frozen? x:=fun x=>rfl
 have hF1:∀x,(((w.alloc (.cells ROW 33)).drew.setCells w.heap.size (i*6) vs).drew).cell? x=((w.drew.alloc (.cells ROW 33)).setCells w.heap.size (i*6) vs).cell? x:=fun x=>rfl
 have hF2:∀x,(((w.alloc (.cells ROW 33)).drew.setCells w.heap.size (i*6) vs).drew).frozen? x=((w.drew.alloc (.cells ROW 33)).setCells w.heap.size (i*6) vs).frozen? x:=fun x=>rfl
 have hw1:IntKind.i64.wrap ((i:Int)+(m:Int))=(i:Int)+(m:Int):=by rw[IntKind.wrap_i64]; omega
 have hb1:(0:Int)<=(i:Int)+(m:Int):=by omega
 have hin:i<=n:=by omega
 have htn:((i:Int)+(m:Int)).toNat=i+m:=by omega
 have hb3:(i:Int)<=(n:Int):=by omega
 clear hkk hik hold hROW hG hRl
 go_enter Tryz.func98,Tryz.ntmps98
 go_wp2_with (first
  |(at_builtin; refine Lib.wpList_append_run _ rfl _ _ _ _ rfl _ _ rfl rfl _ _ (hrz _) ?_)
  |(at_builtin; refine wpList_copy_runI _ rfl _ _ 31 31 rfl _ _ rfl rfl (hcpA _ hE1 hE2 _ _) ?_)
  |(at_builtin; refine wpList_copy_runI _ rfl _ _ 31 31 rfl _ _ rfl rfl (hcpB _ (fun _=>rfl) (fun _=>rfl) _ _ _) ?_))
 go_region_law_o (refine step_copy_runI rfl _ _ 31 31 rfl (.slice (some ⟨w.heap.size,(i+m)*6,none⟩) (n+m-(i+m)) (G-(i+m))) (.slice (some ⟨b,off+i*6,none⟩) (n-i) (c-i)) (by simp[Act.eval,Act.put]) (by simp[Act.eval,Act.put]) (hcpB _ hF1 hF2 3 (G-(i+m)) (c-i)) ?_)
 go_wp2
 go_ret
 exact⟨rfl,rfl⟩
end Go.Proofs.YtcgmpcbkndpmbaaGreatDoor

end
section
open Go Go.Proofs Go.RowKit Go.Lib Go.Pw
namespace Go.Proofs.YtcgmpcbkndpmbaaGreatDoor
set_option maxRecDepth 4000
set_option linter.unusedVariables false
set_option linter.unusedSimpArgs false
def setL:Nat->List Value->Array Value->Array Value
 |_,[],us=>us
 |o,v::r,us=>setL (o+1) r (us.setIfInBounds o v)
theorem setL_size:∀(vs:List Value)(o:Nat)(us:Array Value),(setL o vs us).size=us.size
 | [],_,_=>rfl
 |v::r,o,us=>by rw[setL,setL_size r]; simp
theorem setL_out:∀(vs:List Value)(o:Nat)(us:Array Value)(j:Nat),(j<o∨o+vs.length<=j)->(setL o vs us)[j]? = us[j]?
 | [],_,_,_,_=>rfl
 |v::r,o,us,j,h=>by
  rw[setL,setL_out r (o+1) _ j (by simp at h; omega),Array.getElem?_setIfInBounds_ne (by simp at h; omega)]
theorem setL_in:∀(vs:List Value)(o:Nat)(us:Array Value)(j:Nat),j<vs.length->o+j<us.size->(setL o vs us)[o+j]? = vs[j]?
 | [],_,_,j,h,_=>by simp at h
 |v::r,o,us,0,h,h'=>by
  rw[setL,setL_out r (o+1) _ _ (by omega)]
  simp at h' ⊢
  simp[h']
 |v::r,o,us,j+1,h,h'=>by
  have:=setL_in r (o+1) (us.setIfInBounds o v) j (by simp at h; omega) (by simp; omega)
  rw[setL,show o+(j+1)=o+1+j by omega,this]
  rfl
theorem setL_one {vs:List Value}(hv:∀v∈vs,v.oneCell'=true):∀(o:Nat)(us:Array Value),(∀(j:Nat)(u:Value),us[j]? = some u->u.oneCell'=true)->∀(j:Nat)(u:Value),(setL o vs us)[j]? = some u->u.oneCell'=true:=by
 induction vs with
 |nil=>exact fun o us h=>h
 |cons v r ih=>
  intro o us h
  rw[setL]
  refine ih (fun x hx=>hv x (by simp[hx])) (o+1) _ (fun j u hu=>?_)
  by_cases e:o=j
  ·subst e
   by_cases hl:o<us.size
   ·rw[Array.getElem?_setIfInBounds_self_of_lt hl]at hu
    obtain rfl:=Option.some.inj hu
    exact hv _ (by simp)
   ·rw[Array.getElem?_eq_none (by simpa using hl)]at hu; cases hu
  ·rw[Array.getElem?_setIfInBounds_ne e]at hu
   exact h j u hu
theorem heap_setCells {b:Nat}{E:TypeId}{f:Nat×Nat}:∀(vs:List Value)(o:Nat)(w:World)(us:Array Value),w.heap[b]? = some (.cells us E f)->(w.setCells b o vs).heap[b]? = some (.cells (setL o vs us) E f)
 | [],_,_,_,h=>h
 |v::r,o,w,us,h=>by
  rw[World.setCells,setL]
  refine heap_setCells r (o+1) _ _ ?_
  unfold World.setCell
  simp[Array.getElem?_modify,h]
theorem size_setCells_ {b:Nat}:∀(vs:List Value)(o:Nat)(w:World),(w.setCells b o vs).heap.size=w.heap.size
 | [],_,_=>rfl
 |v::r,o,w=>by rw[World.setCells,size_setCells_ r]; simp[World.setCell]
theorem other_setCells_ {b k:Nat}(h:k≠b):∀(vs:List Value)(o:Nat)(w:World),(w.setCells b o vs).heap[k]? = w.heap[k]?
 | [],_,_=>rfl
 |v::r,o,w=>by
  rw[World.setCells,other_setCells_ h r]
  simp[World.setCell,Array.getElem?_modify,Ne.symm h]
theorem rest_setCells_ {b:Nat}:∀(vs:List Value)(o:Nat)(w:World),(w.setCells b o vs).os=w.os/\(w.setCells b o vs).tape=w.tape/\(w.setCells b o vs).output=w.output
 | [],_,_=>⟨rfl,rfl,rfl⟩
 |v::r,o,w=>rest_setCells_ r (o+1) (w.setCell ⟨b,o,none⟩ v)
structure Roads (P:Program) (F:FuncId) (E:TypeId) (sz by_:Nat) (z:Value):Prop where
 shift:∀(b n c i vb vc:Nat) (cs vs:List Value) (w:World),i<n->n+1<=c->c<=9223372036854775807->vb≠b->cs.length=n*sz->vs.length=sz ->
  (∀j v,cs[j]? = some v->w.cell? ⟨b,0+j,none⟩=some v)->(∀j,j<(n+1)*sz->(w.cell? ⟨b,0+j,none⟩).isSome=true)->(∀j,j<(n+1)*sz->w.frozen? ⟨b,0+j,none⟩=false) ->
  (∀j v,vs[j]? = some v->w.cell? ⟨vb,0+j,none⟩=some v)->(∀v∈cs,v.oneCell'=true)->(∀v∈vs,v.oneCell'=true) ->
  ∀(tA tB:TypeId) (kA kB:Nat),w.shape? vb=some (tA,kA)->w.shape? b=some (tB,kB)->kB≠0->w.frozen? ⟨vb,0,none⟩=false->w.frozen? ⟨vb,kA,none⟩=false ->
  Calls P F #[.slice (some ⟨b,0,none⟩) n c,.int .i64 i,.slice (some ⟨vb,0,none⟩) 1 vc] w fun e w'=>
   e = .returned (.slice (some ⟨b,0,none⟩) (n+1) c)/\w'=(w.drew.setCells b (0+(i+1)*sz) (cs.drop (i*sz))).setCells b (0+i*sz) vs
 end_room:∀(b n c vb vc:Nat) (vs:List Value) (w:World),n+1<=c->c<=9223372036854775807->vs.length=sz->(∀j,j<sz->(w.cell? ⟨b,0+n*sz+j,none⟩).isSome=true)->(∀j,j<sz->w.frozen? ⟨b,0+n*sz+j,none⟩=false) ->
  (∀j v,vs[j]? = some v->w.cell? ⟨vb,0+j,none⟩=some v)->(∀v∈vs,v.oneCell'=true) ->
  Calls P F #[.slice (some ⟨b,0,none⟩) n c,.int .i64 n,.slice (some ⟨vb,0,none⟩) 1 vc] w fun e w'=>
   e = .returned (.slice (some ⟨b,0,none⟩) (n+1) c)/\w'=w.setCells b (0+n*sz) vs
 end_grow:∀(base:Option Addr) (n c vb vc:Nat) (cs vs:List Value) (w:World),n<=c->c<n+1->(n+1)*by_<=140737488355328->cs.length=n*sz->vs.length=sz->(base=none->n=0) ->
  (∀a,base=some a->∀j v,cs[j]? = some v->w.cell? (a.add j)=some v)->(∀j v,vs[j]? = some v->w.cell? ⟨vb,0+j,none⟩=some v)->(∀v∈vs,v.oneCell'=true) ->
  Calls P F #[.slice base n c,.int .i64 n,.slice (some ⟨vb,0,none⟩) 1 vc] w fun e w'=>
   e = .returned (.slice (some ⟨w.heap.size,0,none⟩) (n+1) (grownCap w (n+1) c E)) /\
   w'=w.drew.alloc (.cells ((cs++vs).toArray++Builtin.zeroCells z.cells (grownCap w (n+1) c E-(n+1))) E)
 grow:∀(b n c i vb vc:Nat) (cs vs:List Value) (w:World),i<n->n<=c->c<n+1->(n+1)*by_<=140737488355328->cs.length=n*sz->vs.length=sz ->
  (∀j v,cs[j]? = some v->w.cell? ⟨b,0+j,none⟩=some v)->(∀j v,vs[j]? = some v->w.cell? ⟨vb,0+j,none⟩=some v)->(∀v∈cs,v.oneCell'=true)->(∀v∈vs,v.oneCell'=true) ->
  Calls P F #[.slice (some ⟨b,0,none⟩) n c,.int .i64 i,.slice (some ⟨vb,0,none⟩) 1 vc] w fun e w'=>
   e = .returned (.slice (some ⟨w.heap.size,0,none⟩) (n+1) (grownCap w (n+1) c E)) /\
   w'=(((w.alloc (.cells ((cs.take (i*sz)).toArray++Builtin.zeroCells z.cells (n+1-i)++Builtin.zeroCells z.cells (grownCap w (n+1) c E-(n+1))) E)).drew.setCells w.heap.size (i*sz) vs).drew).setCells w.heap.size ((i+1)*sz) (cs.drop (i*sz))
theorem insS_roads:Roads Tryz.prog 97 9 1 16 (.string ⟨#[]⟩):=by
 refine⟨fun b n c i vb vc cs vs w h1 h2 h3 h4 h5 h6 h7 h8 h9 h10 h11 h12 tA tB kA kB h13 h14 h15 h16 h17=>?_,fun b n c vb vc vs w h1 h2 h3 h4 h5 h6 h7=>?_,fun base n c vb vc cs vs w h1 h2 h3 h4 h5 h6 h7 h8 h9=>?_,fun b n c i vb vc cs vs w h1 h2 h3 h4 h5 h6 h7 h8 h9 h10=>?_⟩<;>(try simp only[Nat.mul_one]at *)
 ·exact insS_shift b 0 n c i vb 0 1 vc cs vs w h1 (by omega) h2 h3 h4 h5 h6 h7 h8 h9 h10 h11 h12 tA tB kA kB h13 h14 h15 h16 h17
 ·exact insS_end_room b 0 n c vb 0 1 vc vs w (by omega) h1 h2 h3 h4 h5 h6 h7
 ·exact insS_end_grow base n c vb 0 1 vc cs vs w (by omega) h1 h2 (by omega) h4 h5 h6 h7 h8 h9
 ·exact insS_grow b 0 n c i vb 0 1 vc cs vs w h1 (by omega) h2 h3 (by omega) h5 h6 h7 h8 h9 h10
theorem insV_roads:Roads Tryz.prog 98 33 6 88 (.agg #[.int .i64 0,.bool false,.int .i64 0,.string ⟨#[]⟩,.slice none 0 0,.slice none 0 0]):=by
 refine⟨fun b n c i vb vc cs vs w h1 h2 h3 h4 h5 h6 h7 h8 h9 h10 h11 h12 tA tB kA kB h13 h14 h15 h16 h17=>?_,fun b n c vb vc vs w h1 h2 h3 h4 h5 h6 h7=>?_,fun base n c vb vc cs vs w h1 h2 h3 h4 h5 h6 h7 h8 h9=>?_,fun b n c i vb vc cs vs w h1 h2 h3 h4 h5 h6 h7 h8 h9 h10=>?_⟩
 ·exact insV_shift b 0 n c i vb 0 1 vc cs vs w h1 (by omega) h2 h3 h4 h5 (by omega) h7 h8 h9 h10 h11 h12 tA tB kA kB h13 h14 h15 h16 h17
 ·exact insV_end_room b 0 n c vb 0 1 vc vs w (by omega) h1 h2 (by omega) h4 h5 h6 h7
 ·exact insV_end_grow base n c vb 0 1 vc cs vs w (by omega) h1 h2 (by omega) h4 (by omega) h6 h7 h8 h9
 ·exact insV_grow b 0 n c i vb 0 1 vc cs vs w h1 (by omega) h2 h3 (by omega) h5 (by omega) h7 h8 h9 h10
structure InsDid (E:TypeId) (sz:Nat) (w:World) (base:Option Nat) (n i:Nat) (us uv:Array Value) (b' c':Nat) (us':Array Value) (w':World):Prop where
 room:n+1<=c'
 small:c'<=maxLen
 row:w'.heap[b']? = some (.cells us' E (0,0))
 size:us'.size=c'*sz
 front:∀j,j<i*sz->us'[j]? = us[j]?
 mid:∀j,j<sz->us'[i*sz+j]? = uv[j]?
 back:∀j,i*sz<=j->j<n*sz->us'[j+sz]? = us[j]?
 one:∀(j:Nat) (u:Value),us'[j]? = some u->u.oneCell'=true
 place:base=some b'∨b'=w.heap.size
 os:w'.os=w.os
 tape:w'.tape=w.tape
 output:w'.output=w.output
 grew:w.heap.size<=w'.heap.size
 other:∀k,k<w.heap.size->base≠some k->w'.heap[k]? = w.heap[k]?
theorem zero_one {z:Value}(hz:∀u∈z.cells.toList,u.oneCell'=true)(n:Nat):∀(j:Nat)(u:Value),(Builtin.zeroCells z.cells n)[j]? = some u->u.oneCell'=true:=by
 intro j u h
 have hm:u∈(Builtin.zeroCells z.cells n):=Array.mem_of_getElem? h
 unfold Builtin.zeroCells at hm
 obtain⟨i,hi,rfl⟩:=Array.mem_map.1 hm
 have hi:i<n*z.cells.size:=Array.mem_range.1 hi
 have hp:0<z.cells.size:=by
  rcases Nat.eq_zero_or_pos z.cells.size with h|h
  ·rw[h]at hi; simp at hi
  ·exact h
 have hl:i%z.cells.size<z.cells.size:=Nat.mod_lt _ hp
 rw[getElem!_pos z.cells _ hl]
 exact hz _ (by simp)
theorem zero_size {z:Value}{sz:Nat}(hz:z.cells.size=sz)(n:Nat):(Builtin.zeroCells z.cells n).size=n*sz:=by
 unfold Builtin.zeroCells
 simp[hz]
set_option maxHeartbeats 1000000 in
theorem Roads.ins {P:Program}{F:FuncId}{E:TypeId}{sz by_:Nat}{z:Value}(R:Roads P F E sz by_ z)(hzs:z.cells.size=sz)(hz1:∀u∈z.cells.toList,u.oneCell'=true)(hsz:0<sz)(w:World)(base:Option Nat)(n c i vb vc:Nat)(us uv:Array Value)
  (hi:i<=n) (hn:n<=c) (hc:c<=maxLen) (hbig:(n+1)*by_<=140737488355328) (hn63:n+1<=maxLen) (hus:us.size=c*sz) (hnone:base=none->c=0) (hb:∀b,base=some b->w.heap[b]? = some (.cells us E (0,0))/\vb≠b)
  (h1:∀(j:Nat) (u:Value),us[j]? = some u->u.oneCell'=true) (hv:1<=vc) (hvb:w.heap[vb]? = some (.cells uv E (0,0))) (hvs:uv.size=vc*sz) (hv1:∀(j:Nat) (u:Value),j<sz->uv[j]? = some u->u.oneCell'=true) :
  Calls P F #[.slice (base.map fun b=>⟨b,0,none⟩) n c,.int .i64 i,.slice (some ⟨vb,0,none⟩) 1 vc] w fun e w'=>∃b' c' us',e = .returned (.slice (some ⟨b',0,none⟩) (n+1) c')/\InsDid E sz w base n i us uv b' c' us' w':=by
 have hsv:sz<=uv.size:=by rw[hvs]; exact Nat.le_mul_of_pos_left sz hv
 have hnz:n*sz<=us.size:=by rw[hus]; exact Nat.mul_le_mul_right _ hn
 have hiz:i*sz<=n*sz:=Nat.mul_le_mul_right _ hi
 have hn1:(n+1)*sz=n*sz+sz:=Nat.succ_mul _ _
 have hi1:(i+1)*sz=i*sz+sz:=Nat.succ_mul _ _
 have hcl:(us.toList.take (n*sz)).length=n*sz:=by rw[List.length_take]; simp; omega
 have hvl:(uv.toList.take sz).length=sz:=by rw[List.length_take]; simp; omega
 have hcget:∀j v,(us.toList.take (n*sz))[j]? = some v->us[j]? = some v:=fun j v h=>by
  rw[List.getElem?_take]at h
  split at h
  ·simpa using h
  ·cases h
 have hvget:∀j v,(uv.toList.take sz)[j]? = some v->uv[j]? = some v:=fun j v h=>by
  rw[List.getElem?_take]at h
  split at h
  ·simpa using h
  ·cases h
 have hcone:∀v∈us.toList.take (n*sz),v.oneCell'=true:=fun v hv=>by
  obtain⟨j,hj⟩:=List.mem_iff_getElem?.1 hv
  exact h1 j v (hcget j v hj)
 have hvone:∀v∈uv.toList.take sz,v.oneCell'=true:=fun v hv=>by
  obtain⟨j,hj⟩:=List.mem_iff_getElem?.1 hv
  exact hv1 j v (by have:=(List.getElem?_eq_some_iff.1 hj).1; rw[hvl]at this; exact this) (hvget j v hj)
 have hvcell:∀j v,(uv.toList.take sz)[j]? = some v->w.cell? ⟨vb,0+j,none⟩=some v:=fun j v h=>by
  rw[Nat.zero_add,Lib.cell_of_heap hvb]; exact hvget j v h
 have hvbl:vb<w.heap.size:=(Array.getElem?_eq_some_iff.1 hvb).1
 have hmax:maxLen=9223372036854775807:=rfl
 have hget:∀j,j<sz->(uv.toList.take sz)[j]? = uv[j]? :=fun j hj=>by rw[List.getElem?_take,if_pos hj]; simp
 cases base with
 |none=>
  have hc0:=hnone rfl
  subst hc0
  have hn0:n=0:=by omega
  subst hn0
  have hi0:i=0:=by omega
  subst hi0
  refine(R.end_grow none 0 0 vb vc (us.toList.take (0*sz)) (uv.toList.take sz) w (Nat.le_refl _) (by omega) hbig hcl hvl (fun _=>rfl) (fun a ha=>by cases ha) hvcell hvone).mono ?_
  rintro e w' ⟨rfl,rfl⟩
  have hg:=grownCap_ge w (0+1) 0 E
  have hgm:=grownCap_le_maxLen w (0+1) 0 E (by omega)
  refine⟨w.heap.size,_,_,rfl,hg,hgm,heap_alloc_at (w:=w.drew) _,?_,fun j hj=>by omega,fun j hj=>?_,fun j _ hj=>by omega,fun j u hu=>?_,.inr rfl,rfl,rfl,rfl,(by show w.heap.size<=(w.heap.push _).size; simp),fun k hk _=>?_⟩
  ·simp only[Array.size_append,List.size_toArray,List.length_append,hcl,hvl,zero_size hzs]
   rw[<-hn1,<-Nat.add_mul]
   congr 1
   omega
  ·rw[Array.getElem?_append_left (by simp[hcl,hvl]; omega),<-hget j hj]
   simp
  ·rw[Array.getElem?_append]at hu
   split at hu
   ·have:u∈us.toList.take (0*sz)++uv.toList.take sz:=List.mem_of_getElem? (by simpa using hu)
    rcases List.mem_append.1 this with h|h
    ·exact hcone u h
    ·exact hvone u h
   ·exact zero_one hz1 _ _ u hu
  ·show(w.heap.push _)[k]? = _
   rw[Array.getElem?_push,if_neg (by omega)]
 |some b=>
  obtain⟨hbw,hne⟩:=hb b rfl
  have hbl:b<w.heap.size:=(Array.getElem?_eq_some_iff.1 hbw).1
  have hccell:∀j v,(us.toList.take (n*sz))[j]? = some v->w.cell? ⟨b,0+j,none⟩=some v:=fun j v h=>by
   rw[Nat.zero_add,Lib.cell_of_heap hbw]; exact hcget j v h
  have hsome:∀j,j<us.size->(w.cell? ⟨b,j,none⟩).isSome=true:=fun j hj=>by
   rw[Lib.cell_of_heap hbw,Array.getElem?_eq_getElem hj]; rfl
  have hfz:∀j,w.frozen? ⟨b,j,none⟩=false:=fun j=>by simp[World.frozen?,hbw]
  have hfv:∀j,w.frozen? ⟨vb,j,none⟩=false:=fun j=>by simp[World.frozen?,hvb]
  by_cases hroom:n+1<=c
  ·have hrz:(n+1)*sz<=us.size:=by rw[hus]; exact Nat.mul_le_mul_right _ hroom
   by_cases hin:i<n
   ·refine(R.shift b n c i vb vc (us.toList.take (n*sz)) (uv.toList.take sz) w hin hroom (by omega) hne hcl hvl hccell (fun j hj=>by rw[Nat.zero_add]; exact hsome j (by omega)) (fun j _=>hfz _) hvcell hcone hvone E E uv.size us.size
     (by simp[World.shape?,hvb]) (by simp[World.shape?,hbw]) (by omega) (hfv _) (hfv _)).mono ?_
    rintro e w' ⟨rfl,rfl⟩
    simp only[Nat.zero_add]
    have hdl:((us.toList.take (n*sz)).drop (i*sz)).length=n*sz-i*sz:=by rw[List.length_drop,hcl]
    have hw1:=heap_setCells (b:=b) (E:=E) (f:=(0,0)) ((us.toList.take (n*sz)).drop (i*sz)) ((i+1)*sz) w.drew us hbw
    have hw2:=heap_setCells (uv.toList.take sz) (i*sz) _ _ hw1
    have r1:=rest_setCells_ (b:=b) (uv.toList.take sz) (i*sz) (w.drew.setCells b ((i+1)*sz) ((us.toList.take (n*sz)).drop (i*sz)))
    have r2:=rest_setCells_ (b:=b) ((us.toList.take (n*sz)).drop (i*sz)) ((i+1)*sz) w.drew
    refine⟨b,c,_,rfl,hroom,hc,hw2,by rw[setL_size,setL_size,hus],fun j hj=>?_,fun j hj=>?_,fun j hj hj'=>?_,setL_one hvone _ _ (setL_one (fun v hv=>hcone v (List.mem_of_mem_drop hv)) _ _ h1),.inl rfl,r1.1.trans r2.1,r1.2.1.trans r2.2.1,r1.2.2.trans r2.2.2,by rw[size_setCells_,size_setCells_]; exact Nat.le_refl _,fun k hk hkb=>?_⟩
    ·rw[setL_out _ _ _ _ (by omega),setL_out _ _ _ _ (by omega)]
    ·rw[setL_in _ _ _ _ (by omega) (by rw[setL_size]; omega),hget j hj]
    ·rw[setL_out _ _ _ _ (by rw[hvl]; omega),show j+sz=(i+1)*sz+(j-i*sz) by omega,setL_in _ _ _ _ (by omega) (by omega),List.getElem?_drop,List.getElem?_take,if_pos (by omega),show i*sz+(j-i*sz)=j by omega]
     simp
    ·rw[other_setCells_ (fun e=>hkb (by rw[e])),other_setCells_ (fun e=>hkb (by rw[e]))]; rfl
   ·have hin:i=n:=by omega
    subst hin
    refine(R.end_room b i c vb vc (uv.toList.take sz) w hroom (by omega) hvl (fun j hj=>by rw[Nat.zero_add]; exact hsome _ (by omega)) (fun j _=>hfz _) hvcell hvone).mono ?_
    rintro e w' ⟨rfl,rfl⟩
    simp only[Nat.zero_add]
    have hw1:=heap_setCells (b:=b) (E:=E) (f:=(0,0)) (uv.toList.take sz) (i*sz) w us hbw
    have r1:=rest_setCells_ (b:=b) (uv.toList.take sz) (i*sz) w
    refine⟨b,c,_,rfl,hroom,hc,hw1,by rw[setL_size,hus],fun j hj=>?_,fun j hj=>?_,fun j hj hj'=>by omega,setL_one hvone _ _ h1,.inl rfl,r1.1,r1.2.1,r1.2.2,by rw[size_setCells_]; exact Nat.le_refl _,fun k hk hkb=>?_⟩
    ·rw[setL_out _ _ _ _ (by omega)]
    ·rw[setL_in _ _ _ _ (by omega) (by omega),hget j hj]
    ·rw[other_setCells_ (fun e=>hkb (by rw[e]))]
  ·have hg:=grownCap_ge w (n+1) c E
   have hgm:=grownCap_le_maxLen w (n+1) c E (by omega)
   by_cases hin:i<n
   ·refine(R.grow b n c i vb vc (us.toList.take (n*sz)) (uv.toList.take sz) w hin hn (by omega) hbig hcl hvl hccell hvcell hcone hvone).mono ?_
    rintro e w' ⟨rfl,rfl⟩
    have hdl:((us.toList.take (n*sz)).drop (i*sz)).length=n*sz-i*sz:=by rw[List.length_drop,hcl]
    have htl:((us.toList.take (n*sz)).take (i*sz)).length=i*sz:=by rw[List.length_take,hcl]; omega
    have h0:∀(o:Array Value),(w.alloc (.cells o E)).drew.heap[w.heap.size]? = some (.cells o E (0,0)):=fun o=>heap_alloc_at (w:=w) _
    have hw1:=heap_setCells (uv.toList.take sz) (i*sz) _ _ (h0 (((us.toList.take (n*sz)).take (i*sz)).toArray++Builtin.zeroCells z.cells (n+1-i)++Builtin.zeroCells z.cells (grownCap w (n+1) c E-(n+1))))
    have hw2:=heap_setCells ((us.toList.take (n*sz)).drop (i*sz)) ((i+1)*sz) (World.drew _) _ hw1
    have hrs:(((us.toList.take (n*sz)).take (i*sz)).toArray++Builtin.zeroCells z.cells (n+1-i)++Builtin.zeroCells z.cells (grownCap w (n+1) c E-(n+1))).size=grownCap w (n+1) c E*sz:=by
     simp only[Array.size_append,List.size_toArray,htl,zero_size hzs]
     rw[<-Nat.add_mul,<-Nat.add_mul]
     congr 1
     omega
    have hgz:(n+1)*sz<=grownCap w (n+1) c E*sz:=Nat.mul_le_mul_right _ hg
    have hro:∀(j:Nat) (u:Value),(((us.toList.take (n*sz)).take (i*sz)).toArray++Builtin.zeroCells z.cells (n+1-i)++Builtin.zeroCells z.cells (grownCap w (n+1) c E-(n+1)))[j]? = some u->u.oneCell'=true:=by
     intro j u hu
     rw[Array.getElem?_append]at hu
     split at hu
     ·rw[Array.getElem?_append]at hu
      split at hu
      ·exact hcone u (List.mem_of_mem_take (List.mem_of_getElem? (by simpa using hu)))
      ·exact zero_one hz1 _ _ u hu
     ·exact zero_one hz1 _ _ u hu
    have hrg:∀j,j<i*sz->(((us.toList.take (n*sz)).take (i*sz)).toArray++Builtin.zeroCells z.cells (n+1-i)++Builtin.zeroCells z.cells (grownCap w (n+1) c E-(n+1)))[j]? = us[j]? :=by
     intro j hj
     rw[Array.getElem?_append_left (by simp only[Array.size_append,List.size_toArray,htl]; omega),Array.getElem?_append_left (by simp only[List.size_toArray,htl]; exact hj)]
     rw[List.getElem?_toArray,List.getElem?_take,if_pos hj,List.getElem?_take,if_pos (by omega)]
     simp
    generalize (((us.toList.take (n*sz)).take (i*sz)).toArray++Builtin.zeroCells z.cells (n+1-i)++Builtin.zeroCells z.cells (grownCap w (n+1) c E-(n+1)))=ROW at *
    have r1:=rest_setCells_ (b:=w.heap.size) (uv.toList.take sz) (i*sz) (w.alloc (.cells ROW E)).drew
    have r2:=rest_setCells_ (b:=w.heap.size) ((us.toList.take (n*sz)).drop (i*sz)) ((i+1)*sz) (((w.alloc (.cells ROW E)).drew.setCells w.heap.size (i*sz) (uv.toList.take sz)).drew)
    refine⟨w.heap.size,_,_,rfl,hg,hgm,hw2,by rw[setL_size,setL_size,hrs],fun j hj=>?_,fun j hj=>?_,fun j hj hj'=>?_,setL_one (fun v hv=>hcone v (List.mem_of_mem_drop hv)) _ _ (setL_one hvone _ _ hro),.inr rfl,r2.1.trans r1.1,r2.2.1.trans r1.2.1,r2.2.2.trans r1.2.2,?_,fun k hk hkb=>?_⟩
    ·rw[setL_out _ _ _ _ (by omega),setL_out _ _ _ _ (by omega),hrg j hj]
    ·rw[setL_out _ _ _ _ (by omega),setL_in _ _ _ _ (by omega) (by omega),hget j hj]
    ·rw[show j+sz=(i+1)*sz+(j-i*sz) by omega,setL_in _ _ _ _ (by omega) (by rw[setL_size]; omega),List.getElem?_drop,List.getElem?_take,if_pos (by omega),show i*sz+(j-i*sz)=j by omega]
     simp
    ·rw[size_setCells_]
     show w.heap.size<=(World.setCells _ _ _ _).heap.size
     rw[size_setCells_]
     show w.heap.size<=(w.heap.push _).size
     simp
    ·rw[other_setCells_ (by omega)]
     show(World.setCells _ _ _ _).heap[k]? = _
     rw[other_setCells_ (by omega)]
     show(w.heap.push _)[k]? = _
     rw[Array.getElem?_push,if_neg (by omega)]
   ·have hin:i=n:=by omega
    subst hin
    refine(R.end_grow (some ⟨b,0,none⟩) i c vb vc (us.toList.take (i*sz)) (uv.toList.take sz) w hn (by omega) hbig hcl hvl (fun h=>by cases h) (fun a ha j v hj=>by
     obtain rfl:=Option.some.inj ha
     rw[Addr.add_lit]; exact hccell j v hj) hvcell hvone).mono ?_
    rintro e w' ⟨rfl,rfl⟩
    refine⟨w.heap.size,_,_,rfl,hg,hgm,heap_alloc_at (w:=w.drew) _,?_,fun j hj=>?_,fun j hj=>?_,fun j _ hj=>by omega,fun j u hu=>?_,.inr rfl,rfl,rfl,rfl,(by show w.heap.size<=(w.heap.push _).size; simp),fun k hk _=>?_⟩
    ·simp only[Array.size_append,List.size_toArray,List.length_append,hcl,hvl,zero_size hzs]
     rw[<-hn1,<-Nat.add_mul]
     congr 1
     omega
    ·rw[Array.getElem?_append_left (by simp[hcl,hvl]; omega)]
     rw[List.getElem?_toArray,List.getElem?_append_left (by omega),List.getElem?_take,if_pos (by omega)]
     simp
    ·rw[Array.getElem?_append_left (by simp[hcl,hvl]; omega)]
     rw[List.getElem?_toArray,List.getElem?_append_right (by omega),hcl,Nat.add_sub_cancel_left,hget j hj]
    ·rw[Array.getElem?_append]at hu
     split at hu
     ·have:u∈us.toList.take (i*sz)++uv.toList.take sz:=List.mem_of_getElem? (by simpa using hu)
      rcases List.mem_append.1 this with h|h
      ·exact hcone u h
      ·exact hvone u h
     ·exact zero_one hz1 _ _ u hu
    ·show(w.heap.push _)[k]? = _
     rw[Array.getElem?_push,if_neg (by omega)]
end Go.Proofs.YtcgmpcbkndpmbaaGreatDoor

end
section
open Go Go.Proofs Go.RowKit Go.Lib Go.Pw
namespace Go.Proofs.YtcgmpcbkndpmbaaGreatDoor
set_option maxRecDepth 4000
set_option linter.unusedVariables false
set_option linter.unusedSimpArgs false
def insArg (base:Option Nat)(n c:Nat):PV:=
 match base with
 |none=>vNil
 |some id=> .ms id 0 n c
theorem Rel.put_row {own:Nat->Prop}{S0:Base}{w0 w w':World}{C:Cx}{st:PS}(R:Rel own S0 w0 C (· < st.nx) (· < st.nt) st w){E:TypeId}{sz n i b' c':Nat}{us uv us':Array Value}(base:Option Nat)
  (hbase:∀id,base=some id->∃t cs,lkp st.heap id=some (.box t cs)) (D:InsDid E sz w (base.map C.ρ) n i us uv b' c' us' w') (heap':List (Nat×PObj)) (hh:∀j o,lkp heap' j=some o->lkp st.heap j=some o/\base≠some j)
  (cs:List PV) (hr:RepL C st.toks (· < st.nx) (· < st.nt) us'.toList cs) :
  Rel own S0 w0 (C.at st.nx b') (· < st.nx+1) (· < st.nt) { st with heap:=(st.nx,.box E cs)::heap',nx:=st.nx+1 } w':=by
 have X:=R.ext_at b' st.nx (Nat.lt_irrefl _) (U':=(· < st.nx+1)) (fun j hj=>Nat.lt_succ_of_lt hj)
 have hnew:(C.at st.nx b').ρ st.nx=b':=by simp[Cx.at]
 have hρ:∀j o,lkp heap' j=some o->(C.at st.nx b').ρ j=C.ρ j:=fun j o h=>by
  have:=(R.hown j o (hh j o h).1).1
  simp only[Cx.at]
  rw[if_neg (by omega)]
 have hnewb:b'<w'.heap.size:=(Array.getElem?_eq_some_iff.1 D.row).1
 have place:(∃id t us0,base=some id/\lkp st.heap id=some (.box t us0)/\b'=C.ρ id)∨b'=w.heap.size:=by
  rcases D.place with h|h
  ·cases hb:base with
   |none=>rw[hb]at h; cases h
   |some id=>
    obtain⟨t,cs,ho⟩:=hbase id hb
    rw[hb]at h
    exact .inl ⟨id,t,cs,rfl,ho,(Option.some.inj h).symm⟩
  ·exact .inr h
 have lt:∀{b:Nat} {x:Obj},w.heap[b]? = some x->b<w.heap.size:=fun h=>(Array.getElem?_eq_some_iff.1 h).1
 have keep:∀k,k<w.heap.size->(∀id,base=some id->k≠C.ρ id)->w'.heap[k]? = w.heap[k]? :=fun k hk hn=>D.other k hk (fun e=>by
  cases hb:base with
  |none=>rw[hb]at e; cases e
  |some id=>rw[hb]at e; exact hn id hb (Option.some.inj e).symm)
 have hfree:∀o,C.S b' o=none:=fun o=>by
  rcases place with⟨id,t,cs,_,ho,rfl⟩|rfl
  ·exact(R.hown id _ ho).2.2.2 o
  ·exact R.fresh o
 refine⟨⟨D.os.trans R.frame.os,D.tape.trans R.frame.tape,D.output.trans R.frame.output,Nat.le_trans R.frame.size D.grew,fun k hk hn=>?_⟩,fun b o v h=>?_,?_,?_,?_,?_,?_,?_,R.tinj,R.snew,R.sold,R.base.trans X,R.glob⟩
 ·rw[keep k (Nat.lt_of_lt_of_le hk R.frame.size) (fun id hb e=>?_)]
  ·exact R.frame.block k hk hn
  ·obtain⟨t,cs,ho⟩:=hbase id hb
   rcases(R.hown id _ ho).2.2.1 with h|h
   ·rw[<-e]at h; exact hn h
   ·omega
 ·have h1:=R.stable b o v h
  have hlt:b<w.heap.size:=by
   rcases Nat.lt_or_ge b w.heap.size with h'|h'
   ·exact h'
   ·simp[World.cell?,Array.getElem?_eq_none h']at h1
  have hk:=keep b hlt (fun id hb e=>by
   obtain⟨t,cs,ho⟩:=hbase id hb
   have h2:C.S b o=some v:=h
   have:=(R.hown id _ ho).2.2.2 o
   rw[<-e,h2]at this
   cases this)
  exact(World.cell?_of_block hk).trans h1
 ·intro j T cs' h
  simp only[lkp_cons]at h
  split at h
  ·rename_i e
   subst e
   obtain⟨rfl,rfl⟩:=PObj.box.inj (Option.some.inj h)
   refine⟨us',by rw[hnew]; exact D.row,by simpa using hr.1,fun k v p hv hp=>?_⟩
   have:=hr.2 k v p (by simpa using hv) hp
   exact⟨this.1,this.2.ext X⟩
  ·obtain⟨h0,hne⟩:=hh j _ h
   obtain⟨vs,h1,h2,h3⟩:=R.box j T cs' h0
   refine⟨vs,?_,h2,fun i v p hv hp=>⟨(h3 i v p hv hp).1,(h3 i v p hv hp).2.ext X⟩⟩
   rw[hρ j _ h,keep _ (lt h1) (fun id hb e=>?_)]
   ·exact h1
   ·obtain⟨t,cs,ho⟩:=hbase id hb
    exact hne (by rw[hb,R.hinj j id _ _ h0 ho e])
 ·intro j s pos h
  simp only[lkp_cons]at h
  split at h
  ·cases h
  ·obtain⟨h0,hne⟩:=hh j _ h
   have h1:=R.iter j s pos h0
   rw[hρ j _ h,keep _ (lt h1) (fun id hb e=>?_)]
   ·exact h1
   ·obtain⟨t,cs,ho⟩:=hbase id hb
    exact hne (by rw[hb,R.hinj j id _ _ h0 ho e])
 ·intro j o h
  simp only[lkp_cons]at h
  split at h
  ·rename_i e
   subst e
   rw[hnew]
   refine⟨Nat.lt_succ_self _,hnewb,?_,hfree⟩
   rcases place with⟨id,t,cs,_,ho,rfl⟩|rfl
   ·exact(R.hown id _ ho).2.2.1
   ·exact .inr R.frame.size
  ·obtain⟨h0,_⟩:=hh j _ h
   obtain⟨h1,h2,h3,h4⟩:=R.hown j o h0
   rw[hρ j _ h]
   exact⟨Nat.lt_succ_of_lt h1,Nat.lt_of_lt_of_le h2 D.grew,h3,h4⟩
 ·have apart:∀j o,lkp heap' j=some o->C.ρ j≠b':=fun j o h e=>by
   obtain⟨h0,hne⟩:=hh j o h
   rcases place with⟨id,t,cs,hb,ho,rfl⟩|rfl
   ·exact hne (by rw[hb,R.hinj j id _ _ h0 ho e])
   ·have:=(R.hown j o h0).2.1; omega
  intro j k oj ok h1 h2 he
  simp only[lkp_cons]at h1 h2
  split at h1<;>split at h2
  ·rename_i e1 e2
   rw[e1,e2]
  ·rename_i e1 e2
   subst e1
   rw[hnew,hρ k _ h2]at he
   exact absurd he.symm (apart k _ h2)
  ·rename_i e1 e2
   subst e2
   rw[hnew,hρ j _ h1]at he
   exact absurd he (apart j _ h1)
  ·rw[hρ j _ h1,hρ k _ h2]at he
   exact R.hinj j k oj ok (hh j _ h1).1 (hh k _ h2).1 he
 ·intro k t h
  obtain⟨h1,h2,⟨vs,h3,h4⟩,h5⟩:=R.tok k t h
  refine⟨h1,h2,⟨vs,?_,h4⟩,h5⟩
  show w'.heap[(C.τ k).1]? = _
  rw[keep _ (lt h3) (fun id hb e=>?_)]
  ·exact h3
  ·obtain⟨t',cs,ho⟩:=hbase id hb
   exact R.tbox id _ k t ho h e.symm
 ·intro j oj k t h1 h2
  simp only[lkp_cons]at h1
  split at h1
  ·rename_i e
   subst e
   rw[hnew]
   rcases place with⟨id,t',cs,hb,ho,rfl⟩|rfl
   ·exact R.tbox id _ k t ho h2
   ·obtain⟨_,_,⟨vs,h3,_⟩,_⟩:=R.tok k t h2
    have:=lt h3
    show w.heap.size≠(C.τ k).1
    omega
  ·rw[hρ j _ h1]
   exact R.tbox j oj k t (hh j _ h1).1 h2
theorem ltL_val:∀(l:List Value)(a b:Nat),PV.ltL a b (l.map .val)=true
 | [],_,_=>rfl
 |v::r,a,b=>by rw[List.map_cons,PV.ltL,ltL_val r a b]; rfl
theorem OkI.insert {P:Program}{F:FuncId}{E:TypeId}{sz by_:Nat}{z:Value}(hent:enters P F=true)(RR:Roads P F E sz by_ z)(hzs:z.cells.size=sz)(hz1:∀u∈z.cells.toList,u.oneCell'=true)(hsz:0<sz)
  {st:PS} {tk:Nat} {x:List PV} (hx:x.length=sz) (ht:lkp st.toks tk=some ⟨E,sz,1⟩) (base:Option Nat) (n c i:Nat) (cs rest:List PV) (hcs:cs.length=n*sz) (hrest:rest.length=(c-n)*sz) (hi:i<=n) (hn:n<=c) (hc:c<=maxLen) (hn1:(n+1)*by_<=140737488355328) (hn63:n+1<=maxLen)
  (h0:base=none->c=0) (hb:∀id,base=some id->lkp st.heap id=some (.box E (cs++rest))) (heap':List (Nat×PObj)) (hh:∀j o,lkp heap' j=some o->lkp st.heap j=some o/\base≠some j) :
  OkI P F [insArg base n c,vI i,.row tk [x]] st (fun r st'=>∃c' rest',n+1<=c'/\c'<=maxLen/\rest'.length=(c'-(n+1))*sz/\(∀a b,PV.ltL a b rest'=true)/\r = .ms st.nx 0 (n+1) c' /\
   st'={ st with heap:=(st.nx,.box E (cs.take (i*sz)++x++cs.drop (i*sz)++rest'))::heap',nx:=st.nx+1 }):=by
 refine⟨hent,fun own S0 w0 w C vals R hsv hrep=>?_⟩
 obtain⟨v0,v1,v2,rfl⟩:∃v0 v1 v2,vals = #[v0,v1,v2]:=by
  cases vals with
  |mk l=>match l,hsv with
   | [a,b,c],_=>exact⟨a,b,c,rfl⟩
 have r0:=hrep 0 v0 _ rfl rfl
 obtain⟨rfl,_⟩:=rep_val (hrep 1 v1 _ rfl rfl)
 have r2:=hrep 2 v2 _ rfl rfl
 cases r2 with
 |frz h=>cases h
 |row h hk htk=>
 obtain⟨g1,g2,g3⟩:=htk _ ht
 obtain rfl:=g3 rfl
 obtain⟨t1,t2,⟨uv,t3,t4⟩,t5,t6,t7⟩:=R.tok tk _ ht
 have hvb:w.heap[(C.τ tk).1]? = some (.cells uv E (0,0)):=t3
 have hvs:uv.size=(C.τ tk).2*sz:=t4
 have hv1:1<=(C.τ tk).2:=t5
 have hcell:∀j,j<sz->∃u p,uv[j]? = some u/\x[j]? = some p/\RepF C.S u p:=by
  cases h with
  |sl f hn' hc' hsz' hA hr=>
   obtain⟨b,o,e,hS⟩:=hA (by simp)
   obtain⟨rfl,rfl⟩:(C.τ tk).1=b/\0=o:=by
    have:=Option.some.inj e
    exact⟨congrArg Addr.block this,congrArg Addr.off this⟩
   rename_i sz'
   have hsz2:sz'=sz:=by rw[<-hsz' x (by simp),hx]
   subst hsz2
   intro j hj
   have h1:=hS 0 j (by simp) hj
   have h2:=R.stable _ _ _ h1
   have hp:x[j]? = some (x[j]'(by omega)):=List.getElem?_eq_getElem (by omega)
   refine⟨f 0 j,_,?_,hp,hr 0 j x _ rfl hp⟩
   rw[Lib.cell_of_heap hvb]at h2
   rw[<-h2]
   congr 1
   omega
 have hbase:∀id,base=some id->∃t cs,lkp st.heap id=some (.box t cs):=fun id h=>⟨_,_,hb id h⟩
 obtain⟨us,hus,husz,hus1,husr⟩:∃us:Array Value,us.size=c*sz/\(∀b,base.map C.ρ=some b->w.heap[b]? = some (.cells us E (0,0))/\(C.τ tk).1≠b)/\(∀(j:Nat) (u:Value),us[j]? = some u->u.oneCell'=true) /\
   (∀(j:Nat) (u:Value) (p:PV),us[j]? = some u->(cs++rest)[j]? = some p->RepV C st.toks (· < st.nx) (· < st.nt) u p):=by
  cases hbb:base with
  |none=>
   have:=h0 hbb
   subst this
   exact⟨#[],by simp,fun b h=>(by cases h),fun j u h=>(by simp at h),fun j u p h=>(by simp at h)⟩
  |some id=>
   obtain⟨us,q1,q2,q3⟩:=R.box id E _ (hb id hbb)
   have hlen:us.size=c*sz:=by
    rw[q2,List.length_append,hcs,hrest,<-Nat.add_mul]
    congr 1
    omega
   refine⟨us,hlen,fun b h=>?_,fun j u hu=>?_,fun j u p hu hp=>(q3 j u p hu hp).2⟩
   ·obtain rfl:=Option.some.inj h
    exact⟨q1,fun e=>R.tbox id _ tk _ (hb id hbb) ht e.symm⟩
   ·have hj:j<(cs++rest).length:=by rw[<-q2]; exact(Array.getElem?_eq_some_iff.1 hu).1
    exact(q3 j u _ hu (List.getElem?_eq_getElem hj)).1
 have hv0:v0 = .slice ((base.map C.ρ).map fun b=>⟨b,0,none⟩) n c:=by
  cases hbb:base with
  |none=>
   have hc0:=h0 hbb
   rw[hbb]at r0
   obtain⟨rfl,_⟩:=rep_val r0
   have hn0:n=0:=by omega
   rw[hc0,hn0]
   rfl
  |some id=>
   rw[hbb]at r0
   exact(rep_ms r0).1
 subst hv0
 refine(RR.ins hzs hz1 hsz w (base.map C.ρ) n c i (C.τ tk).1 (C.τ tk).2 us uv hi hn hc hn1 hn63 hus (fun h=>h0 (by simpa using h)) husz hus1 hv1 hvb hvs (fun j u hj hu=>by
  obtain⟨u',p,e1,_,e3⟩:=hcell j hj
  rw[e1]at hu
  obtain rfl:=Option.some.inj hu
  exact e3.one)).mono ?_
 rintro e w' ⟨b',c',us',rfl,D⟩
 have hiz:i*sz<=n*sz:=Nat.mul_le_mul_right _ hi
 have hn1z:(n+1)*sz=n*sz+sz:=Nat.succ_mul _ _
 have hcz:(n+1)*sz<=us'.size:=by rw[D.size]; exact Nat.mul_le_mul_right _ D.room
 have hlen:(cs.take (i*sz)++x++cs.drop (i*sz)).length=(n+1)*sz:=by
  simp only[List.length_append,List.length_take,List.length_drop,hcs,hx]
  omega
 have hrep':RepL C st.toks (· < st.nx) (· < st.nt) us'.toList (cs.take (i*sz)++x++cs.drop (i*sz)++(us'.toList.drop ((n+1)*sz)).map .val):=by
  refine⟨by rw[List.length_append,hlen,List.length_map,List.length_drop]; simp; omega,fun j u p hu hp=>?_⟩
  have hu':us'[j]? = some u:=by simpa using hu
  refine⟨D.one j u hu',?_⟩
  by_cases h1:j<(n+1)*sz
  ·rw[List.getElem?_append_left (by omega)]at hp
   by_cases h2:j<i*sz
   ·rw[List.getElem?_append_left (by simp only[List.length_append,List.length_take,hcs,hx]; omega),List.getElem?_append_left (by simp only[List.length_take,hcs]; omega),List.getElem?_take,if_pos h2]at hp
    rw[D.front j h2]at hu'
    exact husr j u p hu' (by rw[List.getElem?_append_left (by omega)]; exact hp)
   ·by_cases h3:j<i*sz+sz
    ·rw[List.getElem?_append_left (by simp only[List.length_append,List.length_take,hcs,hx]; omega),List.getElem?_append_right (by simp only[List.length_take,hcs]; omega)]at hp
     simp only[List.length_take,hcs]at hp
     rw[Nat.min_eq_left hiz]at hp
     have h4:=D.mid (j-i*sz) (by omega)
     rw[show i*sz+(j-i*sz)=j by omega,hu']at h4
     obtain⟨u',p',e1,e2,e3⟩:=hcell (j-i*sz) (by omega)
     rw[<-h4]at e1
     rw[e2]at hp
     obtain rfl:=Option.some.inj e1
     obtain rfl:=Option.some.inj hp
     exact .frz e3
    ·rw[List.getElem?_append_right (by simp only[List.length_append,List.length_take,hcs,hx]; omega)]at hp
     simp only[List.length_append,List.length_take,hcs,hx,List.getElem?_drop]at hp
     rw[Nat.min_eq_left hiz]at hp
     have h4:=D.back (j-sz) (by omega) (by omega)
     rw[show j-sz+sz=j by omega,hu']at h4
     refine husr (j-sz) u p h4.symm ?_
     rw[List.getElem?_append_left (by omega),<-hp]
     congr 1
     omega
  ·rw[List.getElem?_append_right (by omega),hlen,List.getElem?_map,List.getElem?_drop,show(n+1)*sz+(j-(n+1)*sz)=j by omega,hu]at hp
   obtain rfl:=Option.some.inj hp
   exact .frz (.val (D.one j u hu'))
 have R':=Rel.put_row R base hbase D heap' hh _ hrep'
 refine⟨_,_,_,C.at st.nx b',⟨c',_,D.room,D.small,?_,ltL_val _,rfl,rfl⟩,rfl,R',R.ext_at b' st.nx (Nat.lt_irrefl _) (fun j hj=>Nat.lt_succ_of_lt hj),?_⟩
 ·rw[List.length_map,List.length_drop]
  simp only[Array.length_toList]
  rw[D.size,<-Nat.sub_mul]
 ·have:RepV (C.at st.nx b') st.toks (· < st.nx+1) (· < st.nt) (.slice (some ⟨(C.at st.nx b').ρ st.nx,0,none⟩) (n+1) c') (.ms st.nx 0 (n+1) c'):= .ms (Nat.lt_succ_self _) D.room
  have hb':(C.at st.nx b').ρ st.nx=b':=by simp[Cx.at]
  rw[hb']at this
  exact this
end Go.Proofs.YtcgmpcbkndpmbaaGreatDoor

end
section
open Go Go.Proofs Go.Pw Go.RowKit
namespace Go.Proofs.YtcgmpcbkndpmbaaGreatDoor
set_option maxRecDepth 4000
set_option linter.unusedVariables false
set_option linter.unusedSimpArgs false
inductive V where
 |mk (kind:Int) (b:Bool) (n:Int) (s:ByteArray) (items:List V) (keys:List ByteArray)
namespace V
def kind:V->Int | .mk k _ _ _ _ _=>k
def b:V->Bool | .mk _ b _ _ _ _=>b
def n:V->Int | .mk _ _ n _ _ _=>n
def s:V->ByteArray | .mk _ _ _ s _ _=>s
def items:V->List V | .mk _ _ _ _ l _=>l
def keys:V->List ByteArray | .mk _ _ _ _ _ l=>l
end V
theorem V.kind_mk (k:Int)(b:Bool)(n:Int)(s:ByteArray)(l:List V)(ks:List ByteArray):(V.mk k b n s l ks).kind=k:=rfl
theorem V.b_mk (k:Int)(b:Bool)(n:Int)(s:ByteArray)(l:List V)(ks:List ByteArray):(V.mk k b n s l ks).b=b:=rfl
theorem V.n_mk (k:Int)(b:Bool)(n:Int)(s:ByteArray)(l:List V)(ks:List ByteArray):(V.mk k b n s l ks).n=n:=rfl
theorem V.s_mk (k:Int)(b:Bool)(n:Int)(s:ByteArray)(l:List V)(ks:List ByteArray):(V.mk k b n s l ks).s=s:=rfl
theorem V.items_mk (k:Int)(b:Bool)(n:Int)(s:ByteArray)(l:List V)(ks:List ByteArray):(V.mk k b n s l ks).items=l:=rfl
theorem V.keys_mk (k:Int)(b:Bool)(n:Int)(s:ByteArray)(l:List V)(ks:List ByteArray):(V.mk k b n s l ks).keys=ks:=rfl
attribute [go_sem] V.kind_mk V.b_mk V.n_mk V.s_mk V.items_mk V.keys_mk
def vZero:V:= .mk 0 false 0 ByteArray.empty [] []
instance:Inhabited V:=⟨vZero⟩
mutual
def encC6:V->List PV
 | .mk k b n s is ks=>[vI k,vB b,vI n,vS s,.sl (encV is),.sl (encT ks)]
def encV:List V->List (List PV)
 | []=>[]
 |v::r=>encC6 v::encV r
end
abbrev cellsV (v:V):List PV:=[vI v.kind,vB v.b,vI v.n,vS v.s,.sl (encV v.items),.sl (encT v.keys)]
theorem encC6_eq (v:V):encC6 v=cellsV v:=by cases v; simp[encC6,cellsV,V.kind,V.b,V.n,V.s,V.items,V.keys]
theorem encV_nil:encV []=[]:=by simp[encV]
theorem encV_cons (v:V)(l:List V):encV (v::l)=cellsV v::encV l:=by rw[<-encC6_eq]; simp[encV]
theorem encV_map:∀l,encV l=l.map cellsV
 | []=>encV_nil
 |v::r=>by rw[encV_cons,encV_map r]; rfl
theorem encV_len (l:List V):(encV l).length=l.length:=by rw[encV_map]; simp
theorem encV_get (l:List V)(i:Nat):(encV l).getD i []=if i<l.length then cellsV (l.getD i default) else[]:=by
 rw[encV_map]
 by_cases h:i<l.length
 ·simp[h,List.getD_eq_getElem?_getD]
 ·rw[if_neg h,List.getD_eq_getElem?_getD,List.getElem?_eq_none (by simpa using h)]; rfl
theorem encV_take (l:List V)(n:Nat):(encV l).take n=encV (l.take n):=by simp[encV_map,List.map_take]
theorem encV_drop (l:List V)(n:Nat):(encV l).drop n=encV (l.drop n):=by simp[encV_map,List.map_drop]
theorem encV_snoc (l:List V)(v:V):encV l++[cellsV v]=encV (l++[v]):=by simp[encV_map]
theorem ix_V {a:List V}{i:Int}{K:PV->Prop}(h0:0<=i)(h1:i<(a.length:Int)):ixP 6 i K (.sl (encV a))=K (.fp (cellsV (a.getD i.toNat default))):=by
 have h:i.toNat<a.length:=by omega
 simp only[ixP,encV_get,if_pos h,encV_len,cellsV,List.length_cons,List.length_nil,h0,h1,true_and]
theorem ix_Vr {a:List V}{i:Int}{k:Nat}{K:PV->Prop}(h0:0<=i)(h1:i<(a.length:Int)):ixP 6 i K (.row k (encV a))=K (.fp (cellsV (a.getD i.toNat default))):=by
 have h:i.toNat<a.length:=by omega
 simp only[ixP,encV_get,if_pos h,encV_len,cellsV,List.length_cons,List.length_nil,h0,h1,true_and]
theorem encV_all (l:List V):(∀x∈encV l,x.length=6)=True:=eq_true (fun x hx=>by
 rw[encV_map]at hx
 obtain⟨n,_,rfl⟩:=List.mem_map.1 hx
 rfl)
theorem fz_encV:∀(l:List V),fzLL (encV l)=some (encV l)
 | []=>by rw[encV_nil]; rfl
 |x::r=>by
  have ih:=fz_encV r
  rw[encV_cons,fzLL,ih]
  rfl
attribute [go_sem ↓ 2000] ix_V ix_Vr
attribute [go_sem] encV_len encV_all fz_encV
def flatT (l:List ByteArray):List PV:=l.map fun s=>vS s
def flatV (l:List V):List PV:=l.flatMap cellsV
theorem ltL_app {a b:Nat}:∀(l m:List PV),PV.ltL a b (l++m)=(PV.ltL a b l&&PV.ltL a b m)
 | [],m=>by simp[PV.ltL]
 |p::r,m=>by rw[List.cons_append,PV.ltL,PV.ltL,ltL_app r m,Bool.and_assoc]
theorem ltL_flatT (a b:Nat):∀(l:List ByteArray),PV.ltL a b (flatT l)=true
 | []=>rfl
 |x::r=>by
  have ih:=ltL_flatT a b r
  unfold flatT at ih ⊢
  rw[List.map_cons,PV.ltL,ih]; rfl
theorem ltL_flatV (a b:Nat):∀(l:List V),PV.ltL a b (flatV l)=true
 | []=>rfl
 |x::r=>by
  have ih:=ltL_flatV a b r
  unfold flatV at ih ⊢
  rw[List.flatMap_cons,ltL_app,ih]; rfl
theorem flatT_len (l:List ByteArray):(flatT l).length=l.length:=by simp[flatT]
theorem flatV_len (l:List V):(flatV l).length=l.length*6:=by
 unfold flatV
 induction l with
 |nil=>rfl
 |cons v r ih=>simp only[List.flatMap_cons,List.length_append,ih,List.length_cons,List.length_nil]; omega
theorem flatT_take (l:List ByteArray)(i:Nat):(flatT l).take i=flatT (l.take i):=by simp[flatT,List.map_take]
theorem flatT_drop (l:List ByteArray)(i:Nat):(flatT l).drop i=flatT (l.drop i):=by simp[flatT,List.map_drop]
theorem flatV_cons (v:V)(l:List V):flatV (v::l)=cellsV v++flatV l:=rfl
theorem flatV_app (l m:List V):flatV (l++m)=flatV l++flatV m:=by simp[flatV]
theorem flatV_take:∀(l:List V)(i:Nat),(flatV l).take (i*6)=flatV (l.take i)
 |l,0=>by simp[flatV]
 | [],i+1=>by simp[flatV]
 |v::r,i+1=>by
  rw[flatV_cons,List.take_succ_cons,flatV_cons,<-flatV_take r i,List.take_append,List.take_of_length_le (by simp; omega)]
  congr 2
  simp; omega
theorem flatV_drop:∀(l:List V)(i:Nat),(flatV l).drop (i*6)=flatV (l.drop i)
 |l,0=>by simp
 | [],i+1=>by simp[flatV]
 |v::r,i+1=>by
  rw[flatV_cons,List.drop_succ_cons,<-flatV_drop r i,List.drop_append,List.drop_eq_nil_of_le (by simp; omega)]
  rw[List.nil_append]
  congr 1
  simp; omega
theorem chunksT (l:List ByteArray)(rest:List PV):chunks 1 l.length (flatT l++rest)=encT l:=by
 unfold chunks encT
 apply List.ext_getElem?
 intro j
 rw[List.getElem?_map,List.getElem?_map]
 by_cases h:j<l.length
 ·rw[List.getElem?_range h,List.getElem?_eq_getElem h]
  simp only[Option.map_some,Nat.mul_one]
  rw[List.drop_append_of_le_length (by rw[flatT_len]; omega),flatT_drop,List.drop_eq_getElem_cons h]
  rfl
 ·rw[List.getElem?_eq_none (by simpa using h),List.getElem?_eq_none (by simpa using h)]
  rfl
theorem chunksV (l:List V)(rest:List PV):chunks 6 l.length (flatV l++rest)=encV l:=by
 unfold chunks
 rw[encV_map]
 apply List.ext_getElem?
 intro j
 rw[List.getElem?_map,List.getElem?_map]
 by_cases h:j<l.length
 ·rw[List.getElem?_range h,List.getElem?_eq_getElem h]
  simp only[Option.map_some]
  rw[List.drop_append_of_le_length (by rw[flatV_len]; omega),flatV_drop,List.drop_eq_getElem_cons h]
  rfl
 ·rw[List.getElem?_eq_none (by simpa using h),List.getElem?_eq_none (by simpa using h)]
  rfl
def szT:List ByteArray->Nat
 | []=>0
 |k::r=>1+k.size+szT r
theorem szT_len:∀l,l.length<=szT l
 | []=>Nat.zero_le _
 |k::r=>by have:=szT_len r; rw[szT,List.length_cons]; omega
theorem szT_few {l:List ByteArray}:∀s∈l,s.size<=szT l:=by
 induction l with
 |nil=>intro s h; cases h
 |cons k r ih=>
  intro s h
  rw[szT]
  rcases List.mem_cons.1 h with rfl|h
  ·omega
  ·have:=ih s h; omega
mutual
def szV:V->Nat
 | .mk _ _ _ s is ks=>1+s.size+szT ks+szVs is
def szVs:List V->Nat
 | []=>0
 |v::r=>szV v+szVs r
end
theorem szV_eq (v:V):szV v=1+v.s.size+szT v.keys+szVs v.items:=by cases v; simp[szV,V.s,V.keys,V.items]
theorem szVs_nil:szVs []=0:=by simp[szVs]
theorem szVs_cons (v:V)(l:List V):szVs (v::l)=szV v+szVs l:=by simp[szVs]
theorem szVs_app:∀(l m:List V),szVs (l++m)=szVs l+szVs m
 | [],m=>by rw[szVs_nil,List.nil_append,Nat.zero_add]
 |v::r,m=>by rw[List.cons_append,szVs_cons,szVs_cons,szVs_app r m]; omega
theorem szV_pos (v:V):1<=szV v:=by rw[szV_eq]; omega
theorem szVs_len:∀(l:List V),l.length<=szVs l
 | []=>Nat.zero_le _
 |v::r=>by have:=szV_pos v; have:=szVs_len r; rw[szVs_cons,List.length_cons]; omega
theorem szVs_mem:∀{l:List V}{v:V},v∈l->szV v<=szVs l
 |x::r,v,h=>by
  rw[szVs_cons]
  rcases List.mem_cons.1 h with rfl|h
  ·omega
  ·have:=szVs_mem h; omega
theorem V.ind {p:V->Prop}(h:∀v,(∀x∈v.items,p x)->p v):∀v,p v:=by
 have key:∀n,∀v,szV v<n->p v:=by
  intro n
  induction n with
  |zero=>intro v hv; omega
  |succ n ih=>
   intro v hv
   refine h v (fun x hx=>ih x ?_)
   have:=szVs_mem hx
   rw[szV_eq]at hv
   omega
 exact fun v=>key _ v (Nat.lt_succ_self _)
end Go.Proofs.YtcgmpcbkndpmbaaGreatDoor

end
