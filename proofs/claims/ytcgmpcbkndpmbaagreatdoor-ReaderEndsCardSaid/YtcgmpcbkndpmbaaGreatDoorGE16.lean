/-
  Contracts and plain laws on the way to the statement; each says its own conditions.
-/
import Derived.Test.YtcgmpcbkndpmbaaGreatDoorGE14
import Derived.Test.YtcgmpcbkndpmbaaGreatDoorGE10
import Derived.Test.YtcgmpcbkndpmbaaGreatDoorGE7
import Derived.Lib.ItoaLen
import Derived.Test.YtcgmpcbkndpmbaaGreatDoorGE8
import Derived.Test.YtcgmpcbkndpmbaaGreatDoorGE12
import Derived.Test.YtcgmpcbkndpmbaaGreatDoorGE15
import Derived.Test.YtcgmpcbkndpmbaaGreatDoorGE9
import Derived.Test.YtcgmpcbkndpmbaaGreatDoorGE6
section
open Go Go.Proofs Go.Pw Go.RowKit
namespace Go.Proofs.YtcgmpcbkndpmbaaGreatDoor
set_option maxRecDepth 4000
set_option linter.unusedVariables false
set_option linter.unusedSimpArgs false
end Go.Proofs.YtcgmpcbkndpmbaaGreatDoor

end
section
open Go Go.Proofs Go.Pw
namespace Go.Proofs.YtcgmpcbkndpmbaaGreatDoor
set_option maxRecDepth 4000
set_option linter.unusedVariables false
set_option linter.unusedSimpArgs false
attribute [local go_sem] Int.toNat_natCast Int.toNat_one Int.toNat_zero Nat.le_refl Tryz.results25 encI_len
def padD:Nat->Nat->List UInt8
 |_,0=>[]
 |n,k+1=>padD (n/10) k++[UInt8.ofNat (48+n%10)]
theorem padD_front:∀(k n:Nat),padD n (k+1)=UInt8.ofNat (48+n/10^k%10)::padD n k
 |0,n=>by simp[padD]
 |k+1,n=>by
  rw[padD,padD_front k (n/10),padD,List.cons_append,Nat.div_div_eq_div_mul,Nat.pow_succ,Nat.mul_comm 10]
theorem padD_len:∀(k n:Nat),(padD n k).length=k
 |0,_=>rfl
 |k+1,n=>by simp[padD,padD_len k]
theorem decD_pad (n:Nat):Lib.decDigits n=padD n (Lib.nDigits n):=by
 induction n using Nat.strongRecOn with
 |_ n ih=>
  by_cases h:n<10
  ·rw[Lib.decDigits,dif_pos h,Lib.nDigits_small h]
   simp[padD,Nat.mod_eq_of_lt h]
  ·rw[Lib.decDigits,dif_neg h,Lib.nDigits_big h,padD,ih (n/10) (by omega)]
theorem nD_gt:∀(t n:Nat),0<n->(t<Lib.nDigits n↔10^t<=n)
 |0,n,h=>by
  have:=Lib.nDigits_pos n
  simp; omega
 |t+1,n,h=>by
  by_cases hn:n<10
  ·rw[Lib.nDigits_small hn,Nat.pow_succ]
   have:0<10^t:=Nat.pow_pos (by decide)
   omega
  ·rw[Lib.nDigits_big hn,Nat.pow_succ,<-Nat.le_div_iff_mul_le (by decide),<-nD_gt t (n/10) (by omega)]
   omega
theorem figs_get:∀(i n:Nat),(figs n).getD i 0=((n/10000^i%10000:Nat):Int)
 |i,n=>by
  by_cases h:n=0
  ·subst h; rw[figs_zero]; simp
  ·rw[figs_step n h]
   cases i with
   |zero=>simp
   |succ i=>
    rw[List.getD_cons_succ,figs_get i (n/10000),Nat.div_div_eq_div_mul,Nat.pow_succ,Nat.mul_comm 10000]
theorem p4 (i:Nat):10000^i=10^(4*i):=by rw[Nat.pow_mul]
theorem figs_more {n i:Nat}(h:i<(figs n).length):10^(4*i)<=n:=by
 have hn:n≠0:=fun e=>by subst e; rw[figs_zero]at h; cases h
 have g:=figs_len_ge n hn
 have:(10000:Int)^i<=10000^((figs n).length-1):=pow_le' (by omega)
 have e:((10000^i:Nat):Int)=(10000:Int)^i:=by simp
 rw[<-p4]
 omega
theorem figs_top {n:Nat}:n<10^(4*(figs n).length):=by
 have h:=valF_fg (figs_digs n)
 rw[figs_val]at h
 unfold Fg at h
 rw[<-p4]
 simpa using h
def tT (n t:Nat):ByteArray:=⟨(padD n (min t (Lib.nDigits n))).toArray⟩
theorem tT_end {n t:Nat}(h:Lib.nDigits n<=t):tT n t=⟨(Lib.decDigits n).toArray⟩:=by
 unfold tT
 rw[Nat.min_eq_right h,decD_pad]
theorem tT_same {n t:Nat}(h:Lib.nDigits n<=t):tT n (t+1)=tT n t:=by
 rw[tT_end h,tT_end (by omega)]
theorem tT_size (n t:Nat):(tT n t).size=min t (Lib.nDigits n):=by
 show(padD n _).toArray.size=_
 simp[padD_len]
def oneD (d:Nat):ByteArray:=(⟨#[48,49,50,51,52,53,54,55,56,57]⟩:ByteArray).extract d (d+1)
theorem oneD_eq {d:Nat}(h:d<10):oneD d=⟨#[UInt8.ofNat (48+d)]⟩:=by
 match d,h with
 |0,_=>rfl
 |1,_=>rfl
 |2,_=>rfl
 |3,_=>rfl
 |4,_=>rfl
 |5,_=>rfl
 |6,_=>rfl
 |7,_=>rfl
 |8,_=>rfl
 |9,_=>rfl
theorem tT_step {n t:Nat}(h:t<Lib.nDigits n):oneD (n/10^t%10)++tT n t=tT n (t+1):=by
 rw[oneD_eq (Nat.mod_lt _ (by decide))]
 unfold tT
 rw[Nat.min_eq_left (by omega),Nat.min_eq_left (by omega),padD_front]
 apply ByteArray.ext
 simp
theorem sOf_zero:sOf 0=⟨#[48]⟩:=by
 unfold sOf Lib.itoa
 rw[if_neg (by decide),Int.toNat_zero,decD_pad,Lib.nDigits_small (by decide)]
 rfl
theorem sOf_pos {n:Int}(h:0<=n):sOf n=⟨(Lib.decDigits n.natAbs).toArray⟩:=by
 unfold sOf Lib.itoa
 rw[if_neg (by omega),show n.toNat=n.natAbs by omega]
theorem sOf_neg {n:Int}(h:n<0):(⟨#[45]⟩:ByteArray)++⟨(Lib.decDigits n.natAbs).toArray⟩=sOf n:=by
 unfold sOf Lib.itoa
 rw[if_pos h]
 apply ByteArray.ext
 simp
set_option maxHeartbeats 4000000 in
theorem rtext_ok (n:Int)(hn:fits n):Ok Tryz.prog 25 [repN n] (vS (sOf n)):=by
 obtain⟨F,hF⟩:∃F,F=figs n.natAbs:=⟨_,rfl⟩
 obtain⟨N,hN⟩:∃N,N=n.natAbs:=⟨_,rfl⟩
 rw[<-hN]at hF
 have hlen:F.length<=5:=by rw[hF]; exact figs_len 5 _ (by rw[hN]; exact Fg.of_fits hn)
 have eq0:repN n = .agg [vB (decide (n<0)),.sl (encI F)]:=by rw[hF,hN]; rfl
 rw[eq0]
 refine Ok.of_pwp (by kernel_rfl) Tryz.func25 rfl (by kernel_rfl) (by kernel_rfl) ?_
 by_cases h0:N=0
 ·have hn0:n=0:=by omega
  subst hn0
  have:F=[]:=by rw[hF,h0,figs_zero]
  subst this
  rw[sOf_zero]
  simp -implicitDefEqProofs (disch:=omega) only[go_sem,simprocAttr, ↓ix_enc]
 have hl0:0<F.length:=by rw[hF]; exact(figs_pos N).2 (by omega)
 have hl0':¬(F.length:Int)=0:=by omega
 have hD:Lib.nDigits N<=4*F.length:=by
  have h1:=figs_top (n:=N)
  rw[<-hF]at h1
  have h2:=nD_gt (4*F.length) N (by omega)
  omega
 simp -implicitDefEqProofs (disch:=omega) only[go_sem,simprocAttr, ↓ix_enc]
 refine p_loop (ι:={ i:Nat // i<=F.length }) (fun i=>⟨[(14,vI i.1),(13,vI F.length),(3,vS (tT N (4*i.1))),(1,.ptr 0 0)],[(0,.box 62 [vB (decide (n<0)),.sl (encI F)])],[],1,0⟩) (fun i=>F.length-i.1) ⟨0,Nat.zero_le _⟩ ?_ ?_
 ·have e:tT N (4*0)=⟨#[]⟩:=by unfold tT; rw[Nat.mul_zero,Nat.zero_min]; rfl
  rw[e]
  constructor<;>simp only[go_sem,simprocAttr,decide_eq_true_eq,Int.natCast_zero]<;>try ((repeat' apply And.intro)<;>first|rfl|omega|(congr 3; omega)|(congr 2; omega))
 ·rintro⟨i,hi⟩
  simp only
  by_cases hil:i<F.length
  ·have ef:F.getD i 0=((N/10^(4*i+0)%10^(4-0):Nat):Int):=by rw[hF,figs_get,p4,Nat.add_zero]
   have efr:N/10^(4*i+0)%10^(4-0)<10000:=Nat.mod_lt _ (by decide)
   simp -implicitDefEqProofs (disch:=omega) only[go_sem,simprocAttr, ↓ix_enc]
   rw[ef]
   refine p_loop (ι:={ k:Nat // k<=4 }) (fun k=>⟨[(6,vI k.1),(5,vI ((N/10^(4*i+k.1)%10^(4-k.1):Nat):Int)),(4,vI i),(3,vS (tT N (4*i+k.1))),(14,vI i),(13,vI F.length),(1,.ptr 0 0)],[(0,.box 62 [vB (decide (n<0)),.sl (encI F)])],[],1,0⟩) (fun k=>4-k.1) ⟨0,by decide⟩ ?_ ?_
   ·constructor<;>simp only[go_sem,simprocAttr,decide_eq_true_eq,Int.natCast_zero,Nat.add_zero]<;>try ((repeat' apply And.intro)<;>first|rfl|omega|(congr 3; omega)|(congr 2; omega))
   ·rintro⟨k,hk⟩
    simp only
    by_cases hk4:k<4
    ·obtain⟨f,hf⟩:∃f,f=N/10^(4*i+k)%10^(4-k):=⟨_,rfl⟩
     have hp:10^(4-k)=10*10^(4-(k+1)):=by rw[show 4-k=(4-(k+1))+1 by omega,Nat.pow_succ]; omega
     have hp4:10^(4-k)<=10^4:=Nat.pow_le_pow_right (by decide) (by omega)
     have hp0:0<10^(4-k):=Nat.pow_pos (by decide)
     have hfr:f<10^(4-k):=by rw[hf]; exact Nat.mod_lt _ hp0
     have hfr':f<10000:=Nat.lt_of_lt_of_le hfr hp4
     have hm:(f:Int).tmod 10=((f%10:Nat):Int):=by rw[Int.tmod_eq_emod_of_nonneg (by omega)]; omega
     have hd:(f:Int).tdiv 10=((f/10:Nat):Int):=by rw[Int.tdiv_eq_ediv_of_nonneg (by omega)]; omega
     have hd2:f/10=N/10^(4*i+(k+1))%10^(4-(k+1)):=by
      rw[hf,hp,Nat.mod_mul_right_div_self,Nat.div_div_eq_div_mul,<-Nat.pow_succ]; rfl
     have hm2:f%10=N/10^(4*i+k)%10:=by
      rw[hf,hp,Nat.mod_mul_right_mod]
     have hm9:f%10<10:=Nat.mod_lt _ (by decide)
     have e3:(((f%10:Nat):Int)+1).toNat=f%10+1:=by omega
     have hts:(tT N (4*i+k)).size<=1000:=by rw[tT_size]; omega
     rw[<-hf]
     by_cases hx:0<f
     ·have ht:4*i+k<Lib.nDigits N:=by
       rw[nD_gt _ _ (by omega)]
       apply Decidable.byContradiction
       intro hc
       rw[Nat.div_eq_of_lt (by omega),Nat.zero_mod]at hf
       omega
      have e4:(⟨#[48,49,50,51,52,53,54,55,56,57]⟩:ByteArray).extract (f%10) (f%10+1)++tT N (4*i+k)=tT N (4*i+(k+1)):=by rw[hm2]; exact tT_step ht
      simp -implicitDefEqProofs (disch:=omega) only[go_sem,simprocAttr, ↓ix_enc,hm,hd,e3]
      refine⟨by simp only[List.size_toArray,List.length_cons,List.length_nil]; omega,by rw[ByteArray.size_extract]; omega,⟨k+1,by omega⟩,by show 4-(k+1)<4-k; omega,?_⟩
      rw[e4,hd2]
      constructor<;>simp only[go_sem,simprocAttr,decide_eq_true_eq,Int.natCast_add,Int.cast_ofNat_Int]<;>try ((repeat' apply And.intro)<;>first|rfl|omega|(congr 3; omega)|(congr 2; omega))
     ·have hf0:f=0:=by omega
      by_cases hy:i+1<F.length
      ·have ht:4*i+k<Lib.nDigits N:=by
        rw[nD_gt _ _ (by omega)]
        have h1:=figs_more (n:=N) (i:=i+1) (by rw[<-hF]; exact hy)
        exact Nat.le_trans (Nat.pow_le_pow_right (by decide) (by omega)) h1
       have e4:(⟨#[48,49,50,51,52,53,54,55,56,57]⟩:ByteArray).extract (f%10) (f%10+1)++tT N (4*i+k)=tT N (4*i+(k+1)):=by rw[hm2]; exact tT_step ht
       simp -implicitDefEqProofs (disch:=omega) only[go_sem,simprocAttr, ↓ix_enc,hm,hd,e3,hx,hy]
       refine⟨by simp only[List.size_toArray,List.length_cons,List.length_nil]; omega,by rw[ByteArray.size_extract]; omega,⟨k+1,by omega⟩,by show 4-(k+1)<4-k; omega,?_⟩
       rw[e4,hd2]
       constructor<;>simp only[go_sem,simprocAttr,decide_eq_true_eq,Int.natCast_add,Int.cast_ofNat_Int]<;>try ((repeat' apply And.intro)<;>first|rfl|omega|(congr 3; omega)|(congr 2; omega))
      ·have ht:Lib.nDigits N<=4*i+k:=by
        have h1:=(nD_gt (4*i+k) N (by omega)).1
        apply Decidable.byContradiction
        intro hc
        have h2:=h1 (by omega)
        have h3:=figs_top (n:=N)
        rw[<-hF,show F.length=i+1 by omega]at h3
        have h4:N/10^(4*i+k)<10^(4-k):=by
         rw[Nat.div_lt_iff_lt_mul (Nat.pow_pos (by decide)),<-Nat.pow_add]
         rw[show 4-k+(4*i+k)=4*(i+1) by omega]
         exact h3
        rw[Nat.mod_eq_of_lt h4]at hf
        have:=(Nat.le_div_iff_mul_le (Nat.pow_pos (by decide:0<10):0<10^(4*i+k)) (x:=1) (y:=N)).2 (by omega)
        omega
       have e4:tT N (4*i+k)=tT N (4*i+(k+1)):=(tT_same ht).symm
       simp -implicitDefEqProofs (disch:=omega) only[go_sem,simprocAttr, ↓ix_enc,hm,hd,e3,hx,hy]
       refine⟨⟨k+1,by omega⟩,by show 4-(k+1)<4-k; omega,?_⟩
       rw[e4,hd2]
       constructor<;>simp only[go_sem,simprocAttr,decide_eq_true_eq,Int.natCast_add,Int.cast_ofNat_Int]<;>try ((repeat' apply And.intro)<;>first|rfl|omega|(congr 3; omega)|(congr 2; omega))
    ·have hk4':k=4:=by omega
     subst hk4'
     simp -implicitDefEqProofs (disch:=omega) only[go_sem,simprocAttr, ↓ix_enc]
     refine⟨⟨i+1,by omega⟩,by show F.length-(i+1)<F.length-i; omega,?_⟩
     rw[show tT N (4*i+4)=tT N (4*(i+1)) by rw[Nat.mul_add]]
     constructor<;>simp only[go_sem,simprocAttr,decide_eq_true_eq,Int.natCast_add,Int.cast_ofNat_Int]<;>try ((repeat' apply And.intro)<;>first|rfl|omega|(congr 3; omega)|(congr 2; omega))
  ·have hil':i=F.length:=by omega
   subst hil'
   rw[tT_end hD]
   by_cases hb:n<0
   ·rw[<-sOf_neg hb]
    simp -implicitDefEqProofs (disch:=omega) only[go_sem,simprocAttr, ↓ix_enc,hb]
    rw[hN]
    have hz:(Lib.decDigits N).toArray.size<=1000:=by
     have:=tT_size N (Lib.nDigits N)
     rw[tT_end (Nat.le_refl _)]at this
     have e:(⟨(Lib.decDigits N).toArray⟩:ByteArray).size=(Lib.decDigits N).toArray.size:=rfl
     omega
    rw[hN]at hz
    exact⟨by simp only[List.size_toArray,List.length_cons,List.length_nil]at hz ⊢; omega,rfl⟩
   ·rw[sOf_pos (by omega)]
    simp -implicitDefEqProofs (disch:=omega) only[go_sem,simprocAttr, ↓ix_enc,hb]
    rw[hN]
end Go.Proofs.YtcgmpcbkndpmbaaGreatDoor

end
section
open Go Go.Proofs Go.Pw
namespace Go.Proofs.YtcgmpcbkndpmbaaGreatDoor
set_option maxRecDepth 4000
set_option linter.unusedVariables false
set_option linter.unusedSimpArgs false
def dS (n:Nat):ByteArray:=⟨(Lib.decDigits n).toArray⟩
theorem bt_arr (l:List UInt8)(i:Nat):bt ⟨l.toArray⟩ i=((l.getD i 0).toNat:Int):=rfl
theorem numV_app (l m:List UInt8):∀i,i<=l.length->numV ⟨(l++m).toArray⟩ i=numV ⟨l.toArray⟩ i
 |0,_=>rfl
 |i+1,h=>by
  rw[numV,numV,numV_app l m i (by omega),bt_arr,bt_arr,List.getD_eq_getElem?_getD,List.getElem?_append_left (by omega),<-List.getD_eq_getElem?_getD]
theorem dD_len (n:Nat):(Lib.decDigits n).length=Lib.nDigits n:=by rw[decD_pad,padD_len]
theorem dS_size (n:Nat):(dS n).size=Lib.nDigits n:=dD_len n
theorem dig_nat {d:Nat}(h:d<10):(UInt8.ofNat (48+d)).toNat=48+d:=by
 rw[UInt8.toNat_ofNat']
 omega
theorem numV_dec (n:Nat):numV (dS n) (Lib.nDigits n)=n:=by
 induction n using Nat.strongRecOn with
 |_ n ih=>
  by_cases h:n<10
  ·have e:dS n=⟨#[UInt8.ofNat (48+n)]⟩:=by unfold dS; rw[Lib.decDigits,dif_pos h]
   rw[Lib.nDigits_small h,e]
   show 0*10+(((UInt8.ofNat (48+n)).toNat:Int)-48)=n
   rw[dig_nat h]; omega
  ·have e:dS n=⟨(Lib.decDigits (n/10)++[UInt8.ofNat (48+n%10)]).toArray⟩:=by
    unfold dS; rw[Lib.decDigits,dif_neg h]
   rw[Lib.nDigits_big h,e,numV,numV_app _ _ _ (by rw[dD_len]; exact Nat.le_refl _),bt_arr]
   have:=ih (n/10) (by omega)
   unfold dS at this
   rw[this,List.getD_eq_getElem?_getD,List.getElem?_append_right (by rw[dD_len]; exact Nat.le_refl _),dD_len,Nat.sub_self]
   show(n/10:Nat)*(10:Int)+(((UInt8.ofNat (48+n%10)).toNat:Int)-48)=n
   rw[dig_nat (Nat.mod_lt _ (by decide))]; omega
theorem padD_get:∀(k n j:Nat),j<k->((padD n k).getD j 0).toNat=48+n/10^(k-1-j)%10
 |0,_,_,h=>absurd h (by omega)
 |k+1,n,j,h=>by
  rw[padD_front]
  cases j with
  |zero=>
   rw[List.getD_cons_zero,dig_nat (Nat.mod_lt _ (by decide))]; rfl
  |succ j=>
   rw[List.getD_cons_succ,padD_get k n j (by omega),show k+1-1-(j+1)=k-1-j by omega]
theorem dS_bt {n j:Nat}(h:j<Lib.nDigits n):bt (dS n) j=((48+n/10^(Lib.nDigits n-1-j)%10:Nat):Int):=by
 unfold dS
 rw[bt_arr,decD_pad,padD_get _ _ _ h]
theorem dS_all (n:Nat):allD (dS n) 0:=by
 intro j hj _
 rw[dS_size]at hj
 rw[dS_bt hj]
 have:=Nat.mod_lt (n/10^(Lib.nDigits n-1-j)) (show 0<10 by decide)
 unfold isD
 omega
theorem dS_lead (n:Nat):¬(bt (dS n) 0=48/\1<(dS n).size):=by
 rintro⟨h1,h2⟩
 rw[dS_size]at h2
 have h0:=dS_bt (n:=n) (j:=0) (by omega)
 have h1':bt (dS n) ((0:Nat):Int)=48:=h1
 rw[h1']at h0
 by_cases hn:n=0
 ·subst hn; rw[Lib.nDigits_small (by decide)]at h2; omega
 ·obtain⟨t,ht⟩:∃t,Lib.nDigits n=t+1:=⟨Lib.nDigits n-1,by omega⟩
  rw[ht]at h0
  have h3:=(nD_gt t n (by omega)).1 (by omega)
  have h4:¬10^(t+1)<=n:=fun k=>by have:=(nD_gt (t+1) n (by omega)).2 k; omega
  have h5:n/10^t<10:=by
   rw[Nat.div_lt_iff_lt_mul (Nat.pow_pos (by decide)),Nat.mul_comm,<-Nat.pow_succ]; omega
  have h6:=(Nat.le_div_iff_mul_le (Nat.pow_pos (by decide:0<10):0<10^t) (x:=1) (y:=n)).2 (by omega)
  rw[show t+1-1-0=t by omega,Nat.mod_eq_of_lt h5]at h0
  omega
theorem dS_first (n:Nat):bt (dS n) 0≠45:=by
 have h0:=Lib.nDigits_pos n
 have:=dS_all n 0 (by rw[dS_size]; omega) (Nat.le_refl _)
 have e:bt (dS n) ((0:Nat):Int)=bt (dS n) 0:=rfl
 unfold isD at this
 omega
theorem sOf_dig (n:Int):digS (sOf n)=dS n.natAbs/\(bt (sOf n) 0=45↔n<0):=by
 by_cases h:n<0
 ·have e:=sOf_neg h
  have hb:bt (sOf n) 0=45:=by
   rw[<-e]
   show bt ((⟨#[45]⟩:ByteArray)++dS n.natAbs) 0=45
   unfold bt
   simp
  refine⟨?_,iff_of_true hb h⟩
  unfold digS
  rw[if_pos hb,<-e]
  apply ByteArray.ext
  apply Array.toList_inj.1
  rw[ext_list]
  simp[dS,ByteArray.size]
 ·have e:=sOf_pos (n:=n) (by omega)
  have hb:bt (sOf n) 0≠45:=by rw[e]; exact dS_first _
  refine⟨?_,iff_of_false hb h⟩
  unfold digS
  rw[if_neg hb,e]
  rfl
theorem sOf_form (n:Int):formP (sOf n):=by
 rw[form_dig,(sOf_dig n).1]
 exact⟨by rw[dS_size]; exact Lib.nDigits_pos _,dS_lead _,dS_all _⟩
theorem sOf_z (n:Int):zOf (sOf n)=n:=by
 unfold zOf
 rw[(sOf_dig n).1,dS_size,numV_dec]
 split
 ·rename_i h
  have:=(sOf_dig n).2.1 h
  omega
 ·rename_i h
  have:=mt (sOf_dig n).2.2 h
  omega
theorem sOf_size (n:Int)(h:fits n):(sOf n).size<=21:=by
 show(Lib.itoa n).toArray.size<=21
 rw[List.size_toArray]
 exact Lib.itoa_length_le n h.1 h.2
end Go.Proofs.YtcgmpcbkndpmbaaGreatDoor

end
section
open Go Go.Proofs Go.Pw Go.RowKit
namespace Go.Proofs.YtcgmpcbkndpmbaaGreatDoor
set_option maxRecDepth 4000
set_option linter.unusedVariables false
set_option linter.unusedSimpArgs false
def Sfx (s:ByteArray)(i:Nat)(l:List UInt8):Prop:=s.data.toList.drop i=l/\i<=s.size
theorem size_list (s:ByteArray):s.data.toList.length=s.size:=Array.length_toList
theorem Sfx.all (s:ByteArray):Sfx s 0 s.data.toList:=⟨rfl,Nat.zero_le _⟩
section
variable {s:ByteArray} {i:Nat} {l:List UInt8} {c:UInt8}
theorem Sfx.len (h:Sfx s i l):i+l.length=s.size:=by
 have:=congrArg List.length h.1
 rw[List.length_drop,size_list]at this
 have:=h.2
 omega
theorem Sfx.app {a:List UInt8}(h:Sfx s i (a++l)):Sfx s (i+a.length) l:=by
 have hl:=h.len
 rw[List.length_append]at hl
 refine⟨?_,by omega⟩
 rw[<-List.drop_drop,h.1,List.drop_left]
theorem Sfx.next (h:Sfx s i (c::l)):Sfx s (i+1) l:=Sfx.app (a:=[c]) h
theorem Sfx.lt (h:Sfx s i (c::l)):i<s.size:=by have:=h.len; rw[List.length_cons]at this; omega
theorem Sfx.getk (h:Sfx s i l)(k:Nat):s.data.toList.getD (i+k) 0=l.getD k 0:=by
 rw[List.getD_eq_getElem?_getD,List.getD_eq_getElem?_getD,<-h.1,List.getElem?_drop]
theorem Sfx.get (h:Sfx s i (c::l)):s.data.toList.getD i 0=c:=h.getk 0
theorem Sfx.bt_ (h:Sfx s i (c::l)):bt s (i:Nat)=c.toNat:=by
 unfold Go.Pw.bt
 rw[Int.toNat_natCast,h.get]
theorem Sfx.has (h:Sfx s i (c::l))(w:List UInt8):hasF s ⟨w.toArray⟩ i=w.contains c:=by
 rw[hasF_mem,h.get,decide_eq_true h.lt,Bool.true_and]
theorem Sfx.has0 (h:Sfx s i [])(w:ByteArray):hasF s w i=false:=by
 cases e:hasF s w i with
 |false=>rfl
 |true=>have:=hasF_lt e; have:=h.len; simp at this; omega
theorem Sfx.ext {a:List UInt8}(h:Sfx s i (a++l)):s.extract i (i+a.length)=⟨a.toArray⟩:=by
 apply ByteArray.ext
 apply Array.ext'
 rw[ByteArray.data_extract,Array.toList_extract,List.extract_eq_take_drop,Nat.add_sub_cancel_left,h.1,List.take_left]
def stp (w:List UInt8):List UInt8->Prop
 | []=>True
 |c::_=>w.contains c=false
theorem Sfx.hasN (h:Sfx s i l){w:List UInt8}(hs:stp w l):hasF s ⟨w.toArray⟩ i=false:=by
 cases l with
 |nil=>exact h.has0 _
 |cons c r=>rw[h.has]; exact hs
theorem Sfx.pass {w:List UInt8}(hs:stp w l):∀{bl:List UInt8}{i:Nat},Sfx s i (bl++l)->(∀c∈bl,w.contains c=true)->passF s ⟨w.toArray⟩ i=i+bl.length
 | [],i,h,hb=>passF_f (h.hasN hs)
 |b::r,i,h,hb=>by
  rw[passF_t (by rw[Sfx.has (c:=b) (l:=r++l) h]; exact hb b (by simp)),Sfx.pass hs (bl:=r) (Sfx.next h) (fun c hc=>hb c (by simp[hc])),List.length_cons]
  omega
end
abbrev blL:List UInt8:=[32,9,10,13]
abbrev mkL:List UInt8:=[123,125,91,93,58,44]
abbrev nuL:List UInt8:=[45,48,49,50,51,52,53,54,55,56,57]
abbrev dgL:List UInt8:=[48,49,50,51,52,53,54,55,56,57]
def Bl (bl:List UInt8):Prop:=∀c∈bl,blL.contains c=true
theorem Bl.nil:Bl []:=fun c h=>by cases h
theorem Bl.app {a b:List UInt8}(h:Bl a)(k:Bl b):Bl (a++b):=fun c hc=>by
 rcases List.mem_append.1 hc with hc|hc
 ·exact h c hc
 ·exact k c hc
section
variable {s:ByteArray} {i:Nat} {l bl:List UInt8} {c:UInt8}
theorem nx_end (h:Sfx s i bl)(hb:Bl bl):nextF s i=(0,0,⟨0,ByteArray.empty,0,s.size,s.size⟩,s.size):=by
 have hp:passF s blS i=s.size:=by
  have h':Sfx s i (bl++[]):=by rw[List.append_nil]; exact h
  rw[<-h.len]
  exact Sfx.pass (w:=blL) (l:=[]) trivial h' hb
 unfold nextF
 rw[hp,if_pos rfl]
theorem nx_mark (h:Sfx s i (bl++c::l))(hb:Bl bl)(hc:mkL.contains c=true):nextF s i=(0,0,⟨1,⟨#[c]⟩,0,i+bl.length,i+bl.length+1⟩,i+bl.length+1):=by
 have hn:∀c:Fin 256,mkL.contains c.1.toUInt8=true->blL.contains c.1.toUInt8=false:=by decide +kernel
 have hp:passF s blS i=i+bl.length:=Sfx.pass (w:=blL) (l:=c::l) (show blL.contains c=false by
  have:=hn ⟨c.toNat,UInt8.toNat_lt _⟩
  simp only[show c.toNat.toUInt8=c from UInt8.ofNat_toNat]at this
  exact this hc) h hb
 have h2:=h.app
 unfold nextF
 rw[hp,if_neg (by have:=h2.lt; omega),if_pos (show hasF s ⟨mkL.toArray⟩ _=true by rw[h2.has]; exact hc)]
 have:=Sfx.ext (a:=[c]) h2
 simp only[List.length_cons,List.length_nil]at this
 rw[this]
 rfl
theorem nx_text (h:Sfx s i (bl++34::l))(hb:Bl bl){t:ByteArray}{q:Nat}(ht:txtT s (i+bl.length)=(0,t,q)):nextF s i=(0,0,⟨2,t,0,i+bl.length,q⟩,q):=by
 have hp:passF s blS i=i+bl.length:=Sfx.pass (w:=blL) (l:=34::l) (show blL.contains 34=false by decide) h hb
 have h2:=h.app
 unfold nextF
 rw[hp,if_neg (by have:=h2.lt; omega),if_neg (show ¬hasF s ⟨mkL.toArray⟩ _=true by rw[h2.has]; decide),if_pos (show hasF s ⟨[34].toArray⟩ _=true by rw[h2.has]; decide),ht]
 rfl
theorem nx_num (h:Sfx s i (bl++c::l))(hb:Bl bl)(hc:nuL.contains c=true){n:Int}{q:Nat}(ht:numF s (i+bl.length)=(0,n,q)):nextF s i=(0,0,⟨3,ByteArray.empty,n,i+bl.length,q⟩,q):=by
 have hn:∀c:Fin 256,nuL.contains c.1.toUInt8=true->blL.contains c.1.toUInt8=false/\mkL.contains c.1.toUInt8=false/\[34].contains c.1.toUInt8=false:=by decide +kernel
 have hn':=hn ⟨c.toNat,UInt8.toNat_lt _⟩
 simp only[show c.toNat.toUInt8=c from UInt8.ofNat_toNat]at hn'
 replace hn':=hn' hc
 have hp:passF s blS i=i+bl.length:=Sfx.pass (w:=blL) (l:=c::l) hn'.1 h hb
 have h2:=h.app
 unfold nextF
 rw[hp,if_neg (by have:=h2.lt; omega),if_neg (show ¬hasF s ⟨mkL.toArray⟩ _=true by rw[h2.has,hn'.2.1]; decide),if_neg (show ¬hasF s ⟨[34].toArray⟩ _=true by rw[h2.has,hn'.2.2]; decide),if_pos (show hasF s ⟨nuL.toArray⟩ _=true by rw[h2.has]; exact hc),ht]
 rfl
theorem litF_at {w:ByteArray}:∀{a:List UInt8}{k i:Nat},Sfx s i (a++l)->Sfx w k a->litF s w a.length k i=(true,i+a.length)
 | [],k,i,h,hw=>rfl
 |b::r,k,i,h,hw=>by
  rw[List.length_cons,litF]
  have hx:hasF s (w.extract k (k+1)) i=true:=by
   have:=Sfx.ext (a:=[b]) (l:=r) hw
   simp only[List.length_cons,List.length_nil]at this
   rw[this]
   show hasF s ⟨[b].toArray⟩ i=true
   rw[Sfx.has (c:=b) (l:=r++l) h]
   simp
  rw[if_pos hx,litF_at (Sfx.next h) (Sfx.next hw)]
  congr 1
  omega
end
section
variable {s:ByteArray} {i:Nat} {l bl:List UInt8}
theorem nx_word {a:List UInt8}{k:Int}(h:Sfx s i (bl++(a++l)))(hb:Bl bl)(hw:(a,k)=([116,114,117,101],4)∨(a,k)=([102,97,108,115,101],5)∨(a,k)=([110,117,108,108],6)):nextF s i=(0,0,⟨k,ByteArray.empty,0,i+bl.length,i+bl.length+a.length⟩,i+bl.length+a.length):=by
 have h2:=h.app
 have key:∀(c:UInt8) (r:List UInt8),a=c::r->blL.contains c=false->mkL.contains c=false->[34].contains c=false->nuL.contains c=false->nextF s i=nextE i (i+bl.length) (wordF s (i+bl.length)).1 ⟨(wordF s (i+bl.length)).2.1,ByteArray.empty,0,0,0⟩ (wordF s (i+bl.length)).2.2:=fun c r e h3 h4 h5 h6=>by
  subst e
  have hp:passF s blS i=i+bl.length:=Sfx.pass (w:=blL) (l:=(c::r)++l) h3 h hb
  unfold nextF
  rw[hp,if_neg (by have:=h2.lt; omega),if_neg (show ¬hasF s ⟨mkL.toArray⟩ _=true by rw[Sfx.has (c:=c) (l:=r++l) h2,h4]; decide),if_neg (show ¬hasF s ⟨[34].toArray⟩ _=true by rw[Sfx.has (c:=c) (l:=r++l) h2,h5]; decide),if_neg (show ¬hasF s ⟨nuL.toArray⟩ _=true by rw[Sfx.has (c:=c) (l:=r++l) h2,h6]; decide)]
 rcases hw with hw|hw|hw
 ·obtain⟨rfl,rfl⟩:=Prod.mk.inj hw
  have hl:=litF_at (w:=wd1) (k:=0) h2 (Sfx.all wd1)
  rw[key 116 _ rfl (by decide) (by decide) (by decide) (by decide)]
  unfold wordF
  rw[if_pos (show hasF s ⟨[116].toArray⟩ _=true by rw[Sfx.has (c:=116) h2]; decide)]
  rw[show([116,114,117,101]:List UInt8).length=4 from rfl]at hl
  rw[hl]
  rfl
 ·obtain⟨rfl,rfl⟩:=Prod.mk.inj hw
  have hl:=litF_at (w:=wd2) (k:=0) h2 (Sfx.all wd2)
  rw[key 102 _ rfl (by decide) (by decide) (by decide) (by decide)]
  unfold wordF
  rw[if_neg (show ¬hasF s ⟨[116].toArray⟩ _=true by rw[Sfx.has (c:=102) h2]; decide),if_pos (show hasF s ⟨[102].toArray⟩ _=true by rw[Sfx.has (c:=102) h2]; decide)]
  rw[show([102,97,108,115,101]:List UInt8).length=5 from rfl]at hl
  rw[hl]
  rfl
 ·obtain⟨rfl,rfl⟩:=Prod.mk.inj hw
  have hl:=litF_at (w:=wd3) (k:=0) h2 (Sfx.all wd3)
  rw[key 110 _ rfl (by decide) (by decide) (by decide) (by decide)]
  unfold wordF
  rw[if_neg (show ¬hasF s ⟨[116].toArray⟩ _=true by rw[Sfx.has (c:=110) h2]; decide),if_neg (show ¬hasF s ⟨[102].toArray⟩ _=true by rw[Sfx.has (c:=110) h2]; decide),if_pos (show hasF s ⟨[110].toArray⟩ _=true by rw[Sfx.has (c:=110) h2]; decide)]
  rw[show([110,117,108,108]:List UInt8).length=4 from rfl]at hl
  rw[hl]
  rfl
theorem numF_at {t:ByteArray}(h:Sfx s i (t.data.toList++l))(hf:formP t)(hz:fits (zOf t))(hl:stp (dgL++[46,101,69]) l):numF s i=(0,zOf t,i+t.size):=by
 obtain⟨f1,f2,f3⟩:=hf
 have hsl:=size_list t
 have hs:=h.app
 rw[hsl]at hs
 have hlen:=h.len
 rw[List.length_append,hsl]at hlen
 have bk:∀k,k<t.size->bt s ((i+k:Nat):Int)=bt t (k:Nat):=fun k hk=>by
  unfold Go.Pw.bt
  rw[Int.toNat_natCast,Int.toNat_natCast,h.getk]
  rw[List.getD_eq_getElem?_getD,List.getD_eq_getElem?_getD,List.getElem?_append_left (by omega)]
 have st1:stp dgL l:=by
  cases l with
  |nil=>trivial
  |cons c r=>simp only[stp,List.contains_append,Bool.or_eq_false_iff]at hl ⊢; exact hl.1
 have st2:∀w:List UInt8,(∀c∈w,([46,101,69]:List UInt8).contains c=true)->stp w l:=fun w hw=>by
  cases l with
  |nil=>trivial
  |cons c r=>
   simp only[stp,List.contains_append,Bool.or_eq_false_iff]at hl ⊢
   cases e:w.contains c with
   |false=>rfl
   |true=>rw[hw c (by simpa using e)]at hl; exact absurd hl.2 (by decide)
 have hA:oneP s mnS i=i+fromF t:=by
  unfold oneP fromF
  rw[<-isB_mn]
  unfold isB
  rw[decide_eq_true (show i<s.size by omega),Bool.true_and,show(i:Int)=((i+0:Nat):Int) from rfl,bk 0 (by omega)]
  by_cases e:bt t (0:Nat)=45
  ·rw[if_pos (decide_eq_true e),if_pos ⟨by omega,e⟩]
  ·rw[if_neg (fun h=>e (of_decide_eq_true h)),if_neg (fun h=>e h.2)]; rfl
 have hI:numI s (i+fromF t)=(true,i+t.size):=by
  unfold numI
  rw[<-isB_zr]
  unfold isB
  rw[decide_eq_true (show i+fromF t<s.size by omega),Bool.true_and,bk _ f1]
  by_cases e:bt t (fromF t:Nat)=48
  ·rw[if_pos (decide_eq_true e)]
   have:¬fromF t+1<t.size:=fun h=>f2 ⟨e,h⟩
   congr 1
   omega
  ·rw[if_neg (fun h=>e (of_decide_eq_true h))]
   have hd:Sfx s (i+fromF t) (t.data.toList.drop (fromF t)++l):=by
    refine⟨?_,by omega⟩
    rw[<-List.drop_drop,h.1,List.drop_append_of_le_length (by omega)]
   have hp:=Sfx.pass (w:=dgL) st1 hd (fun c hc=>by
    obtain⟨j,hj,rfl⟩:=List.mem_iff_getElem.1 hc
    rw[List.length_drop]at hj
    have:=f3 (fromF t+j) (by omega) (by omega)
    have hb:bt t ((fromF t+j:Nat):Int)=((t.data.toList.drop (fromF t))[j]).toNat:=by
     unfold Go.Pw.bt
     rw[Int.toNat_natCast,List.getElem_drop,List.getD_eq_getElem?_getD,List.getElem?_eq_getElem (by omega)]
     rfl
    rw[hb]at this
    generalize (t.data.toList.drop (fromF t))[j]=c at *
    have f:∀c:Fin 256,dgL.contains c.1.toUInt8=decide (48<=(c.1:Int)/\(c.1:Int)<=57):=by decide +kernel
    have h2:=f ⟨c.toNat,UInt8.toNat_lt _⟩
    simp only[show c.toNat.toUInt8=c from UInt8.ofNat_toNat]at h2
    rw[h2]
    exact decide_eq_true this)
   rw[show(⟨dgL.toArray⟩:ByteArray)=dgS from rfl]at hp
   rw[hp,List.length_drop,hsl,decide_eq_false (by omega)]
   congr 1
   omega
 unfold numF
 rw[hA,hI]
 unfold numY
 rw[if_pos rfl]
 have hD:numD s (i+t.size)=(true,i+t.size):=by
  unfold numD
  rw[if_neg (show ¬hasF s ⟨[46].toArray⟩ _=true by rw[hs.hasN (st2 [46] (by decide))]; decide)]
 have hE:numE s (i+t.size)=(true,i+t.size):=by
  unfold numE
  rw[if_neg (show ¬hasF s ⟨[101,69].toArray⟩ _=true by rw[hs.hasN (st2 [101,69] (by decide))]; decide)]
 unfold numX
 simp only[hD,hE,if_true]
 unfold numT
 have hx:=Sfx.ext h
 rw[hsl]at hx
 have hx2:s.extract i (i+t.size)=t:=hx
 rw[hx2,if_pos ⟨pC_0 ⟨f1,f2,f3⟩ hz,rfl⟩,pV_0 (pC_0 ⟨f1,f2,f3⟩ hz)]
end
end Go.Proofs.YtcgmpcbkndpmbaaGreatDoor

end
section
open Go Go.Proofs Go.Pw Go.RowKit
namespace Go.Proofs.YtcgmpcbkndpmbaaGreatDoor
set_option maxRecDepth 4000
set_option linter.unusedVariables false
set_option linter.unusedSimpArgs false
def Tok1 (s:ByteArray)(i:Nat)(t:Tk)(q:Nat):Prop:=nextF s i=(0,0,t,q)
def mkT (c:UInt8)(a:Nat):Tk:=⟨1,⟨#[c]⟩,0,a,a+1⟩
section
variable {s:ByteArray} {i q a:Nat} {t:Tk} {c:UInt8}
theorem Tok1.te (h:Tok1 s i t q):nE s i=0:=by unfold nE; rw[h]
theorem Tok1.tt (h:Tok1 s i t q):nT s i=t:=by unfold nT; rw[h]
theorem Tok1.tq (h:Tok1 s i t q):nQ s i=q:=by unfold nQ; rw[h]
theorem sign_mk (c d:UInt8)(a:Nat):(mkT c a).sign d=decide (c=d):=by
 unfold Tk.sign mkT
 simp
theorem rV_leaf {k:Nat}{v:V}(h:Tok1 s i t q)(hv:rLeaf t=some v):rV s k i = .good v q:=by
 cases k<;>(rw[rV]; unfold rVh; rw[if_neg (by rw[h.te]; decide),h.tt,h.tq,hv])
theorem rLeaf_mk (c:UInt8)(a:Nat):rLeaf (mkT c a)=none:=by
 unfold rLeaf mkT
 simp
theorem rV_deep (h:Tok1 s i (mkT c a) q)(hc:c=91∨c=123):rV s 0 i = .bad 6 a:=by
 rw[rV]; unfold rVh
 rw[if_neg (by rw[h.te]; decide),h.tt,rLeaf_mk]
 simp only
 rw[if_neg (by rw[sign_mk,sign_mk]; rcases hc with rfl|rfl<;>decide)]
 rfl
theorem rV_arr {k:Nat}(h:Tok1 s i (mkT 91 a) q):rV s (k+1) i=rArr s (rV s k) q:=by
 rw[rV]; unfold rVh
 rw[if_neg (by rw[h.te]; decide),h.tt,rLeaf_mk]
 simp only
 rw[if_neg (by rw[sign_mk,sign_mk]; decide),if_pos (by rw[sign_mk]; decide),h.tq]
theorem rV_obj {k:Nat}(h:Tok1 s i (mkT 123 a) q):rV s (k+1) i=rObj s (rV s k) q:=by
 rw[rV]; unfold rVh
 rw[if_neg (by rw[h.te]; decide),h.tt,rLeaf_mk]
 simp only
 rw[if_neg (by rw[sign_mk,sign_mk]; decide),if_neg (by rw[sign_mk]; decide),h.tq]
variable {f:Nat->An}
theorem rArr_nil (h:Tok1 s i (mkT 93 a) q):rArr s f i = .good (.mk 4 false 0 ByteArray.empty [] []) q:=by
 unfold rArr
 rw[if_neg (by rw[h.te]; decide),h.tt,if_pos (by rw[sign_mk]; decide),h.tq]
theorem rArr_some (h:Tok1 s i t q)(ht:t.sign 93=false):rArr s f i=rItems s f (s.size+1) i []:=by
 unfold rArr
 rw[if_neg (by rw[h.te]; decide),h.tt,if_neg (by rw[ht]; decide)]
theorem rObj_nil (h:Tok1 s i (mkT 125 a) q):rObj s f i = .good (.mk 5 false 0 ByteArray.empty [] []) q:=by
 unfold rObj
 rw[if_neg (by rw[h.te]; decide),h.tt,if_pos (by rw[sign_mk]; decide),h.tq]
theorem rObj_some (h:Tok1 s i t q)(ht:t.sign 125=false):rObj s f i=rMems s f (s.size+1) i [] []:=by
 unfold rObj
 rw[if_neg (by rw[h.te]; decide),h.tt,if_neg (by rw[ht]; decide)]
theorem rItems_bad {n:Nat}{l:List V}{e:Int}{p:Nat}(hf:f i = .bad e p)(he:e≠0):rItems s f (n+1) i l = .bad e p:=by
 rw[rItems,hf,if_pos (show(An.bad e p).code≠0 from he)]
 rfl
theorem rItems_last {n q1:Nat}{l:List V}{v:V}(hf:f i = .good v q1)(h:Tok1 s q1 (mkT 93 a) q):rItems s f (n+1) i l = .good (.mk 4 false 0 ByteArray.empty (l++[v]) []) q:=by
 rw[rItems,hf,if_neg (show ¬(An.good v q1).code≠0 from fun h=>h rfl)]
 show(if nE s q1≠0 then _ else _)=_
 rw[if_neg (by rw[h.te]; decide)]
 show(if(nT s q1).sign 93=true then _ else _)=_
 rw[h.tt,if_pos (by rw[sign_mk]; decide)]
 show An.good _ (nQ s q1)=_
 rw[h.tq]
 rfl
theorem rItems_more {n q1:Nat}{l:List V}{v:V}(hf:f i = .good v q1)(h:Tok1 s q1 (mkT 44 a) q):rItems s f (n+1) i l=rItems s f n q (l++[v]):=by
 rw[rItems,hf,if_neg (show ¬(An.good v q1).code≠0 from fun h=>h rfl)]
 show(if nE s q1≠0 then _ else _)=_
 rw[if_neg (by rw[h.te]; decide)]
 show(if(nT s q1).sign 93=true then _ else if(nT s q1).sign 44=true then _ else _)=_
 rw[h.tt,if_neg (by rw[sign_mk]; decide),if_pos (by rw[sign_mk]; decide)]
 show rItems s f n (nQ s q1) _=_
 rw[h.tq]
 rfl
theorem rMems_key {n q1 q2 a1 a2:Nat}{ks:List ByteArray}{l:List V}{k:ByteArray}(h1:Tok1 s i ⟨2,k,0,a1,q1⟩ q1)(hk:k ∉ ks)(h2:Tok1 s q1 (mkT 58 a2) q2) :
  rMems s f (n+1) i ks l=if(f q2).code≠0 then .bad (f q2).code (f q2).place else if nE s (f q2).at_≠0 then .bad (nE s (f q2).at_) (nP s (f q2).at_) else
   if(nT s (f q2).at_).sign 125=true then .good (objV (ks++[k]) (l++[(f q2).v])) (nQ s (f q2).at_) else
   if(nT s (f q2).at_).sign 44=true then rMems s f n (nQ s (f q2).at_) (ks++[k]) (l++[(f q2).v]) else .bad 1 (nT s (f q2).at_).at_:=by
 rw[rMems,if_neg (by rw[h1.te]; decide),h1.tt,h1.tq]
 rw[if_neg (fun h=>h rfl),if_neg (fun h=>hk (any_mem.1 h)),if_neg (by rw[h2.te]; decide),h2.tt,h2.tq,if_neg (by rw[sign_mk]; decide)]
theorem rMems_bad {n q1 q2 a1 a2:Nat}{ks:List ByteArray}{l:List V}{k:ByteArray}(h1:Tok1 s i ⟨2,k,0,a1,q1⟩ q1)(hk:k ∉ ks)(h2:Tok1 s q1 (mkT 58 a2) q2){e:Int}{p:Nat}(hf:f q2 = .bad e p)(he:e≠0):rMems s f (n+1) i ks l = .bad e p:=by
 rw[rMems_key h1 hk h2,hf,if_pos (show(An.bad e p).code≠0 from he)]
 rfl
theorem rMems_last {n q1 q2 q3 a1 a2:Nat}{ks:List ByteArray}{l:List V}{k:ByteArray}{v:V}(h1:Tok1 s i ⟨2,k,0,a1,q1⟩ q1)(hk:k ∉ ks)(h2:Tok1 s q1 (mkT 58 a2) q2)(hf:f q2 = .good v q3)(h3:Tok1 s q3 (mkT 125 a) q):rMems s f (n+1) i ks l = .good (objV (ks++[k]) (l++[v])) q:=by
 rw[rMems_key h1 hk h2,hf,if_neg (show ¬(An.good v q3).code≠0 from fun h=>h rfl)]
 show(if nE s q3≠0 then _ else if(nT s q3).sign 125=true then An.good _ (nQ s q3) else _)=_
 rw[if_neg (by rw[h3.te]; decide),h3.tt,if_pos (by rw[sign_mk]; decide),h3.tq]
 rfl
theorem rMems_more {n q1 q2 q3 a1 a2:Nat}{ks:List ByteArray}{l:List V}{k:ByteArray}{v:V}(h1:Tok1 s i ⟨2,k,0,a1,q1⟩ q1)(hk:k ∉ ks)(h2:Tok1 s q1 (mkT 58 a2) q2)(hf:f q2 = .good v q3)(h3:Tok1 s q3 (mkT 44 a) q):rMems s f (n+1) i ks l=rMems s f n q (ks++[k]) (l++[v]):=by
 rw[rMems_key h1 hk h2,hf,if_neg (show ¬(An.good v q3).code≠0 from fun h=>h rfl)]
 show(if nE s q3≠0 then _ else if(nT s q3).sign 125=true then _ else if(nT s q3).sign 44=true then rMems s f n (nQ s q3) _ _ else _)=_
 rw[if_neg (by rw[h3.te]; decide),h3.tt,if_neg (by rw[sign_mk]; decide),if_pos (by rw[sign_mk]; decide),h3.tq]
 rfl
theorem tok_mark {l bl:List UInt8}(h:Sfx s i (bl++c::l))(hb:Bl bl)(hc:mkL.contains c=true):Tok1 s i (mkT c (i+bl.length)) (i+bl.length+1):=nx_mark h hb hc
end
abbrev exS:ByteArray:=⟨#[123,34,98,34,58,32,49,44,32,34,97,34,58,32,91,93,125]⟩
abbrev exV:V:= .mk 5 false 0 ByteArray.empty [.mk 4 false 0 ByteArray.empty [] [],.mk 2 false 1 ByteArray.empty [] []] [⟨#[97]⟩,⟨#[98]⟩]
theorem Bl.one:Bl [32]:=fun c h=>by rw[List.mem_singleton]at h; subst h; decide
theorem exV_obj:objV [⟨#[98]⟩,⟨#[97]⟩] [.mk 2 false 1 ByteArray.empty [] [],.mk 4 false 0 ByteArray.empty [] []]=exV:=by
 unfold objV
 have:putAll [] [] [⟨#[98]⟩,⟨#[97]⟩] [.mk 2 false 1 ByteArray.empty [] [],.mk 4 false 0 ByteArray.empty [] []]=some ([⟨#[97]⟩,⟨#[98]⟩],[.mk 4 false 0 ByteArray.empty [] [],.mk 2 false 1 ByteArray.empty [] []]):=by
  have p1:posT [] ⟨#[98]⟩=0:=by decide +kernel
  have p2:posT [⟨#[98]⟩] ⟨#[97]⟩=0:=by decide +kernel
  rw[putAll,if_neg (by decide +kernel),p1]
  show putAll [⟨#[98]⟩] [.mk 2 false 1 ByteArray.empty [] []] [⟨#[97]⟩] [.mk 4 false 0 ByteArray.empty [] []]=_
  rw[putAll,if_neg (by decide +kernel),p2,putAll.eq_2 _ _ _ _ (fun _ _ _ _ h=>by cases h)]
  rfl
 rw[this]
theorem sOf_1':sOf 1=⟨#[49]⟩:=by
 rw[sOf_pos (by decide),decD_pad,show(1:Int).natAbs=1 from rfl,Lib.nDigits_small (by decide)]
 rfl
theorem ex_num:numF exS 6=(0,1,7):=by
 have h:Sfx exS 6 ((⟨#[49]⟩:ByteArray).data.toList++[44,32,34,97,34,58,32,91,93,125]):=⟨rfl,by decide⟩
 have:=numF_at h (by rw[<-sOf_1']; exact sOf_form 1) (by rw[<-sOf_1',sOf_z]; unfold fits; decide) (by unfold stp; decide)
 rw[this,<-sOf_1',sOf_z,sOf_1']
 rfl
theorem ex_val:rV exS 2 0 = .good exV 17:=by
 have t0:Tok1 exS 0 (mkT 123 0) 1:=tok_mark (bl:=[]) (l:=[34,98,34,58,32,49,44,32,34,97,34,58,32,91,93,125]) ⟨rfl,by decide⟩ Bl.nil (by decide)
 have t1:Tok1 exS 1 ⟨2,⟨#[98]⟩,0,1,4⟩ 4:=nx_text (bl:=[]) (l:=[98,34,58,32,49,44,32,34,97,34,58,32,91,93,125]) ⟨rfl,by decide⟩ Bl.nil (by decide +kernel)
 have t4:Tok1 exS 4 (mkT 58 4) 5:=tok_mark (bl:=[]) (l:=[32,49,44,32,34,97,34,58,32,91,93,125]) ⟨rfl,by decide⟩ Bl.nil (by decide)
 have t5:Tok1 exS 5 ⟨3,ByteArray.empty,1,6,7⟩ 7:=nx_num (bl:=[32]) (c:=49) (l:=[44,32,34,97,34,58,32,91,93,125]) ⟨rfl,by decide⟩ Bl.one (by decide) ex_num
 have t7:Tok1 exS 7 (mkT 44 7) 8:=tok_mark (bl:=[]) (l:=[32,34,97,34,58,32,91,93,125]) ⟨rfl,by decide⟩ Bl.nil (by decide)
 have t8:Tok1 exS 8 ⟨2,⟨#[97]⟩,0,9,12⟩ 12:=nx_text (bl:=[32]) (l:=[97,34,58,32,91,93,125]) ⟨rfl,by decide⟩ Bl.one (by decide +kernel)
 have t12:Tok1 exS 12 (mkT 58 12) 13:=tok_mark (bl:=[]) (l:=[32,91,93,125]) ⟨rfl,by decide⟩ Bl.nil (by decide)
 have t13:Tok1 exS 13 (mkT 91 14) 15:=tok_mark (bl:=[32]) (l:=[93,125]) ⟨rfl,by decide⟩ Bl.one (by decide)
 have t15:Tok1 exS 15 (mkT 93 15) 16:=tok_mark (bl:=[]) (l:=[125]) ⟨rfl,by decide⟩ Bl.nil (by decide)
 have t16:Tok1 exS 16 (mkT 125 16) 17:=tok_mark (bl:=[]) (l:=[]) ⟨rfl,by decide⟩ Bl.nil (by decide)
 have v5:rV exS 1 5 = .good (.mk 2 false 1 ByteArray.empty [] []) 7:=rV_leaf t5 rfl
 have v13:rV exS 1 13 = .good (.mk 4 false 0 ByteArray.empty [] []) 16:=by rw[rV_arr t13,rArr_nil t15]
 rw[rV_obj t0,rObj_some t1 rfl,rMems_more t1 (by simp) t4 v5 t7,show exS.size=16+1 from rfl,rMems_last t8 (by intro h; rw[List.nil_append,List.mem_singleton]at h; exact absurd h (by decide)) t12 v13 t16]
 show An.good (objV [⟨#[98]⟩,⟨#[97]⟩] [.mk 2 false 1 ByteArray.empty [] [],.mk 4 false 0 ByteArray.empty [] []]) 17=_
 rw[exV_obj]
theorem ex_end:Tok1 exS 17 ⟨0,ByteArray.empty,0,17,17⟩ 17:=nx_end (bl:=[]) (s:=exS) ⟨rfl,by decide⟩ Bl.nil
end Go.Proofs.YtcgmpcbkndpmbaaGreatDoor

end
section
open Go Go.Proofs Go.Pw Go.RowKit
namespace Go.Proofs.YtcgmpcbkndpmbaaGreatDoor
set_option maxRecDepth 4000
set_option linter.unusedVariables false
set_option linter.unusedSimpArgs false
theorem ex_parse:parseA exS 2 = .good exV 0:=by
 unfold parseA
 rw[if_neg (by decide),if_neg (by decide),show Int.toNat 2=2 from rfl,ex_val]
 rw[if_neg (show ¬(An.good exV 17).code≠0 from fun h=>h rfl)]
 show(if nE exS 17≠0 then _ else if(nT exS 17).kind≠0 then _ else An.good exV 0)=_
 rw[if_neg (by rw[ex_end.te]; decide),ex_end.tt,if_neg (by decide)]
set_option maxHeartbeats 4000000 in
theorem awake6_ok:Ok Tryz.prog 8 [] (vB true):=by
 have c:=parse_ok6 exS (by decide) 2 (by decide)
 rw[ex_parse]at c
 have e:parseR (.good exV 0) = .tup [.agg (cellsV exV),vI 0,vI 0]:=rfl
 rw[e]at c
 simp only[vZero,encT,encV_cons,encV_nil,encT_nil,List.map_cons,List.map_nil,V.kind_mk,V.b_mk,V.n_mk,V.s_mk,V.items_mk,V.keys_mk,cellsV]at c
 refine Ok.of_pwp (by kernel_rfl) Tryz.func8 rfl (by kernel_rfl) (by kernel_rfl) ?_
 simp -implicitDefEqProofs (disch:=omega) only[go_sem,simprocAttr,Nat.le_refl,Int.toNat_natCast,Int.toNat_zero,Int.toNat_one,str_eq,cellsV,decide_true,Bool.not_true,Bool.not_false,beq_self_eq_true,encV_nil,encT_nil,List.getD_cons_zero,List.getD_cons_succ,Tryz.results8]
 with_reducible refine CallOk.of c rfl ?_
 simp -implicitDefEqProofs (disch:=omega) only[go_sem,simprocAttr,Nat.le_refl,Int.toNat_natCast,Int.toNat_zero,Int.toNat_one,str_eq,cellsV,decide_true,Bool.not_true,Bool.not_false,beq_self_eq_true,encV_nil,encT_nil,List.getD_cons_zero,List.getD_cons_succ,Tryz.results8]
end Go.Proofs.YtcgmpcbkndpmbaaGreatDoor

end
section
open Go Go.Proofs Go.Pw Go.RowKit
namespace Go.Proofs.YtcgmpcbkndpmbaaGreatDoor
set_option maxRecDepth 4000
set_option linter.unusedVariables false
set_option linter.unusedSimpArgs false
def Piece (p:Int)(bs:List UInt8):Prop:=isF p=true/\1<=bs.length/\∀(s:ByteArray) (i:Nat) (l:List UInt8),Sfx s i (bs++l)->∀f out,ptsF s (f+1) i out=ptsF s f (i+bs.length) (out++[p])
theorem pieces_pts {s:ByteArray}:∀(L:List (Int×List UInt8))(i f:Nat)(l:List UInt8)(out:List Int),(∀x∈L,Piece x.1 x.2)->Sfx s i (L.flatMap (·.2)++34::l)->L.length<f->ptsF s f i out=(0,out++L.map (·.1),i+(L.flatMap (·.2)).length+1)
 | [],i,f,l,out,hp,h,hf=>by
  obtain⟨f,rfl⟩:∃j,f=j+1:=⟨f-1,by omega⟩
  have h':Sfx s i (34::l):=h
  rw[ptsF,if_pos (show hasF s ⟨[34].toArray⟩ i=true by rw[h'.has]; decide)]
  simp
 |(p,bs)::r,i,f,l,out,hp,h,hf=>by
  obtain⟨f,rfl⟩:∃j,f=j+1:=⟨f-1,by omega⟩
  obtain⟨h1,h2,h3⟩:=hp _ (List.mem_cons_self)
  simp only at h1 h2 h3
  have h':Sfx s i (bs++(r.flatMap (·.2)++34::l)):=by
   rw[List.flatMap_cons,List.append_assoc]at h; exact h
  rw[h3 s i _ h' f out]
  rw[pieces_pts r _ f l (out++[p]) (fun x hx=>hp x (List.mem_cons_of_mem _ hx)) h'.app (by rw[List.length_cons]at hf; omega)]
  simp only[List.map_cons,List.flatMap_cons,List.length_append,List.append_assoc,List.cons_append,List.nil_append]
  congr 2
  omega
theorem flat_len {L:List (Int×List UInt8)}(hp:∀x∈L,Piece x.1 x.2):L.length<=(L.flatMap (·.2)).length:=by
 induction L with
 |nil=>exact Nat.le_refl _
 |cons x r ih=>
  have:=(hp x (List.mem_cons_self)).2.1
  have:=ih (fun y hy=>hp y (List.mem_cons_of_mem _ hy))
  rw[List.flatMap_cons,List.length_append,List.length_cons]
  omega
def quL (L:List (Int×List UInt8)):List UInt8:=34::(L.flatMap (·.2)++[34])
theorem pieces_txt {s:ByteArray}{L:List (Int×List UInt8)}{i:Nat}{l:List UInt8}(hp:∀x∈L,Piece x.1 x.2)(h:Sfx s i (quL L++l)):txtT s i=(0,strOfNums (textN (L.map (·.1))),i+(quL L).length):=by
 have h0:Sfx s i (34::(L.flatMap (·.2)++34::l)):=by
  unfold quL at h
  rw[List.cons_append,List.append_assoc]at h
  exact h
 have hl:=h0.len
 rw[List.length_cons,List.length_append,List.length_cons]at hl
 have hf:=flat_len hp
 obtain⟨e1,e2⟩:=ptsT_txt s i h0.lt
 rw[e1]
 unfold ptsT
 rw[pieces_pts L (i+1) (s.size-i) l [] hp h0.next (by omega)]
 unfold quL
 simp only[List.nil_append,List.length_cons,List.length_append,List.length_nil]
 congr 2
 omega
theorem tok_text {s:ByteArray}{L:List (Int×List UInt8)}{i:Nat}{l bl:List UInt8}(hp:∀x∈L,Piece x.1 x.2)(h:Sfx s i (bl++(quL L++l)))(hb:Bl bl):Tok1 s i ⟨2,strOfNums (textN (L.map (·.1))),0,i+bl.length,i+bl.length+(quL L).length⟩ (i+bl.length+(quL L).length):=
 nx_text (l:=L.flatMap (·.2)++[34]++l) h hb (pieces_txt hp h.app)
theorem piece_esc {p:Int}{bs:List UInt8}(hp:isF p=true)(he:∀(s:ByteArray)(i:Nat)(l:List UInt8),Sfx s i (92::(bs++l))->escP s i=(p,0,i+(bs.length+1))):Piece p (92::bs):=by
 refine⟨hp,by simp,fun s i l h f out=>?_⟩
 have h':Sfx s i (92::(bs++l)):=h
 rw[ptsF,if_neg (show ¬hasF s ⟨[34].toArray⟩ i=true by rw[h'.has]; decide),if_neg,if_pos (show hasF s ⟨[92].toArray⟩ i=true by rw[h'.has]; decide),he s i l h']
 ·rw[if_pos rfl,List.length_cons]
 ·rintro(h2|h2)
  ·have:=h'.lt; omega
  ·rw[h'.bt_]at h2; exact absurd h2 (by decide)
abbrev ltL:List UInt8:=[34,92,47,98,102,110,114,116]
theorem ptS_is:∀c:Fin 256,ltL.contains c.1.toUInt8=true->isF (bt ptS (ixB ltS (c.1:Int)))=true:=by decide +kernel
theorem u8_fin (c:UInt8):(⟨c.toNat,UInt8.toNat_lt _⟩:Fin 256).1.toUInt8=c:=UInt8.ofNat_toNat
theorem piece_two (c:UInt8)(hc:ltL.contains c=true):Piece (bt ptS (ixB ltS (c.toNat:Int))) [92,c]:=by
 refine piece_esc (bs:=[c]) ?_ (fun s i l h=>?_)
 ·have:=ptS_is ⟨c.toNat,UInt8.toNat_lt _⟩
  rw[u8_fin]at this
  exact this hc
 ·have h1:=h.next
  have h2:Sfx s (i+1) (c::l):=h1
  unfold escP
  rw[if_pos (show hasF s ⟨ltL.toArray⟩ (i+1)=true by rw[h2.has]; exact hc),h2.bt_]
  rfl
def hxD (d:UInt8):Int:=(ixB hxS (d.toNat:Int)).tmod 16
def hxN (ds:List UInt8)(n:Int):Int:=ds.foldl (fun a d=>a*16+hxD d) n
abbrev hxL:List UInt8:=[48,49,50,51,52,53,54,55,56,57,97,98,99,100,101,102,48,49,50,51,52,53,54,55,56,57,65,66,67,68,69,70]
theorem hexF_at {s:ByteArray}{l:List UInt8}:∀(ds:List UInt8)(i:Nat)(n:Int),Sfx s i (ds++l)->(∀d∈ds,hxL.contains d=true)->hexF s ds.length i n=(hxN ds n,true,i+ds.length)
 | [],i,n,h,hd=>rfl
 |d::r,i,n,h,hd=>by
  have h1:Sfx s i (d::(r++l)):=h
  rw[List.length_cons,hexF,if_pos (show hasF s ⟨hxL.toArray⟩ i=true by rw[h1.has]; exact hd d (List.mem_cons_self)),hexF_at r (i+1) _ h1.next (fun x hx=>hd x (List.mem_cons_of_mem _ hx)),h1.bt_]
  rw[show i+1+r.length=i+(r.length+1) by omega]
  rfl
theorem hexF_at4 {s:ByteArray}{l ds:List UInt8}{i:Nat}(h:Sfx s i (ds++l))(h4:ds.length=4)(hd:∀d∈ds,hxL.contains d=true):hexF s 4 i 0=(hxN ds 0,true,i+4):=by
 have:=hexF_at ds i 0 h hd
 rw[h4]at this
 exact this
theorem piece_u {ds:List UInt8}(h4:ds.length=4)(hd:∀d∈ds,hxL.contains d=true)(hp:isF (hxN ds 0)=true):Piece (hxN ds 0) (92::117::ds):=by
 refine piece_esc (bs:=117::ds) hp (fun s i l h=>?_)
 have h1:Sfx s (i+1) (117::(ds++l)):=h.next
 have h2:=hexF_at4 h1.next h4 hd
 unfold escP
 rw[if_neg (show ¬hasF s ⟨ltL.toArray⟩ (i+1)=true by rw[h1.has]; decide),if_pos (show hasF s ⟨[117].toArray⟩ (i+1)=true by rw[h1.has]; decide),show i+2=i+1+1 from rfl,h2,if_pos rfl]
 unfold esc2
 rw[if_pos hp,List.length_cons,h4]
theorem piece_pair {ds es:List UInt8}(h4:ds.length=4)(hd:∀d∈ds,hxL.contains d=true)(g4:es.length=4)(ge:∀d∈es,hxL.contains d=true)(hn:isF (hxN ds 0)=false)(h0:0<=pairF (hxN ds 0) (hxN es 0)):Piece (pairF (hxN ds 0) (hxN es 0)) (92::117::(ds++(92::117::es))):=by
 refine piece_esc (bs:=117::(ds++(92::117::es))) (pair_isF h0) (fun s i l h=>?_)
 have h1:Sfx s (i+1) (117::(ds++(92::117::(es++l)))):=by
  have:=h.next
  rw[List.cons_append,List.append_assoc]at this
  exact this
 have h2:=hexF_at4 h1.next h4 hd
 have h3:=h1.next.app
 rw[h4]at h3
 have h5:Sfx s (i+1+1+4+1) (117::(es++l)):=h3.next
 have h6:=hexF_at4 h5.next g4 ge
 unfold escP
 rw[if_neg (show ¬hasF s ⟨ltL.toArray⟩ (i+1)=true by rw[h1.has]; decide),if_pos (show hasF s ⟨[117].toArray⟩ (i+1)=true by rw[h1.has]; decide),show i+2=i+1+1 from rfl,h2,if_pos rfl]
 unfold esc2
 rw[if_neg (by rw[hn]; decide)]
 have e6:hexF s 4 (i+1+1+4+2) 0=(hxN es 0,true,i+1+1+4+1+1+4):=h6
 simp only
 rw[if_pos ⟨show hasF s ⟨[92].toArray⟩ (i+1+1+4)=true by rw[h3.has]; decide,show hasF s ⟨[117].toArray⟩ (i+1+1+4+1)=true by rw[h5.has]; decide,by rw[e6],by rw[e6]; exact h0⟩,e6]
 simp only[List.length_cons,List.length_append,h4,g4]
def rawL (p:Int):List UInt8:=(strOfNums (bytesF p)).data.toList
theorem rawL_len (p:Int):(rawL p).length=(bytesF p).length:=by unfold rawL strOfNums; simp
theorem sfx_split {s:ByteArray}{i:Nat}{l:List UInt8}(h:Sfx s i l):∃a:ByteArray,a.size=i/\s=a++⟨l.toArray⟩:=by
 refine⟨⟨(s.data.toList.take i).toArray⟩,?_,?_⟩
 ·show(s.data.toList.take i).toArray.size=i
  have:=h.2
  have:=size_list s
  simp
  omega
 ·apply ByteArray.ext
  apply Array.ext'
  have:=h.1
  simp only[ByteArray.data_append,Array.toList_append]
  rw[<-this,List.take_append_drop]
theorem raw_first {p:Int}(hp:isF p=true)(h32:32<=p)(h34:p≠34)(h92:p≠92):∃c r,rawL p=c::r/\32<=c.toNat/\c≠34/\c≠92:=by
 unfold isF at hp
 simp only[decide_eq_true_eq]at hp
 have key:∀(n:Int) (r:List Int),bytesF p=n::r->32<=n->n<=255->n≠34->n≠92->∃c r,rawL p=c::r/\32<=c.toNat/\c≠34/\c≠92:=fun n r e h1 h2 h3 h4=>by
  have hn:(UInt8.ofNat n.toNat).toNat=n.toNat:=by
   show n.toNat%256=n.toNat
   omega
  refine⟨UInt8.ofNat n.toNat,r.map fun n=>UInt8.ofNat n.toNat,by unfold rawL strOfNums; rw[e]; simp,by omega,fun h=>?_,fun h=>?_⟩
  ·have:=congrArg UInt8.toNat h
   rw[hn]at this
   have:n.toNat=34:=this
   omega
  ·have:=congrArg UInt8.toNat h
   rw[hn]at this
   have:n.toNat=92:=this
   omega
 by_cases c1:p<128
 ·exact key p [] (by unfold bytesF; rw[if_pos c1]) h32 (by omega) h34 h92
 by_cases c2:p<2048
 ·exact key (192+p/64) _ (by unfold bytesF; rw[if_neg c1,if_pos c2]) (by omega) (by omega) (by omega) (by omega)
 by_cases c3:p<65536
 ·exact key (224+p/4096) _ (by unfold bytesF; rw[if_neg c1,if_neg c2,if_pos c3]) (by omega) (by omega) (by omega) (by omega)
 ·exact key (240+p/262144) _ (by unfold bytesF; rw[if_neg c1,if_neg c2,if_neg c3]) (by omega) (by omega) (by omega) (by omega)
theorem piece_raw {p:Int}(hp:isF p=true)(h32:32<=p)(h34:p≠34)(h92:p≠92):Piece p (rawL p):=by
 have hl:=bytesF_len p
 refine⟨hp,by rw[rawL_len]; omega,fun s i l h f out=>?_⟩
 obtain⟨c,r,e,c1,c2,c3⟩:=raw_first hp h32 h34 h92
 have h1:Sfx s i (c::(r++l)):=by rw[e]at h; exact h
 have hd:goodN (Utf8.decode s i)=(p,((bytesF p).length:Int)):=by
  obtain⟨a,ha,hs⟩:=sfx_split h
  have:s=a++(strOfNums (bytesF p)++⟨l.toArray⟩):=by
   rw[hs]
   congr 1
  rw[this,<-ha]
  have:=dec_right a (strOfNums (bytesF p)++⟨l.toArray⟩) 0
  rw[Nat.add_zero]at this
  rw[this]
  exact dec_enc p hp _
 rw[ptsF,if_neg (show ¬hasF s ⟨[34].toArray⟩ i=true by rw[h1.has]; simp; exact fun h=>c2 h),if_neg,if_neg (show ¬hasF s ⟨[92].toArray⟩ i=true by rw[h1.has]; simp; exact fun h=>c3 h),hd,if_neg (by simp only; omega),rawL_len]
 ·rfl
 ·rintro(h2|h2)
  ·have:=h1.lt; omega
  ·rw[h1.bt_]at h2; omega
end Go.Proofs.YtcgmpcbkndpmbaaGreatDoor

end
section
open Go Go.Proofs Go.Pw Go.RowKit
namespace Go.Proofs.YtcgmpcbkndpmbaaGreatDoor
set_option maxRecDepth 4000
set_option linter.unusedVariables false
set_option linter.unusedSimpArgs false
attribute [local go_sem] Nat.le_refl Tryz.results24 Tryz.results33 encI_len
def blkL (n:Int):List UInt8:=([[],[32],[10],[9],[13,10],[32,32],[32,9,32],[10,10]]:List (List UInt8)).getD (n%8).toNat []
theorem blkL_bl (n:Int):Bl (blkL n):=by
 have h:n%8=0∨n%8=1∨n%8=2∨n%8=3∨n%8=4∨n%8=5∨n%8=6∨n%8=7:=by omega
 unfold Bl blkL
 rcases h with h|h|h|h|h|h|h|h<;>(rw[h]; decide)
def ixAr (P:Program)(e:TypeId)(n m:Nat)(i:Int)(K:PV->Prop):PV->Prop
 | .agg cs=>0<=i/\i<m/\bindO (readCells P e cs (i.toNat*n)) K
 |_=>False
theorem ix_arrP {P:Program}{st:PS}{x y:Operand}{K:PV->Prop}{t e:TypeId}{m n:Nat}(hu:P.underlying t=some (.array m e))(hs:sizeOf? P e=some n):indexK P st t x y K=bindO (st.ev x) fun p=>bindO (st.ev y) fun q=>intK q fun i=>ixAr P e n m i K p:=by
 unfold indexK
 rw[hu]
 simp only[hs,b_some]
 cases st.ev x with
 |none=>rfl
 |some p=>simp only[b_some]; rfl
theorem ix8 {st:PS}{x y:Operand}{K:PV->Prop}:indexK Tryz.prog st 92 x y K=bindO (st.ev x) fun p=>bindO (st.ev y) fun q=>intK q fun i=>ixAr Tryz.prog 9 1 8 i K p:=ix_arrP Tryz.underlying92 sz9
set_option maxHeartbeats 4000000 in
theorem blanks_ok (n:Int)(hn:0<=n/\n<=255):Ok Tryz.prog 24 [vC n] (vS ⟨(blkL n).toArray⟩):=by
 have h:n%8=0∨n%8=1∨n%8=2∨n%8=3∨n%8=4∨n%8=5∨n%8=6∨n%8=7:=by omega
 have e:n.tmod 8=n%8:=Int.tmod_eq_emod_of_nonneg hn.1
 refine Ok.of_pwp (by kernel_rfl) Tryz.func24 rfl (by kernel_rfl) (by kernel_rfl) ?_
 unfold blkL
 rcases h with h|h|h|h|h|h|h|h<;>(rw[h]; simp -implicitDefEqProofs (disch:=omega) only[go_sem,simprocAttr, ↓ix_enc,ix8,ixAr,e,h]; try rfl)
def digL (g:Bool):List UInt8:=if g=true then[48,49,50,51,52,53,54,55,56,57,65,66,67,68,69,70] else[48,49,50,51,52,53,54,55,56,57,97,98,99,100,101,102]
def dg (g:Bool)(v:Nat):UInt8:=(digL g).getD v 0
def fourL (p:Nat)(g:Bool):List UInt8:=[dg g (p/4096%16),dg g (p/256%16),dg g (p/16%16),dg g (p%16)]
def fourS (p:Nat)(g:Bool):Nat->ByteArray
 |0=>ByteArray.empty
 |i+1=>⟨#[dg g (p/16^i%16)]⟩++fourS p g i
theorem fourS_4 (p:Nat)(g:Bool):fourS p g 4=⟨(fourL p g).toArray⟩:=by
 apply ByteArray.ext
 apply Array.ext'
 simp[fourS,fourL]
theorem fourS_size (p:Nat)(g:Bool):∀i,(fourS p g i).size=i
 |0=>rfl
 |i+1=>by rw[fourS,ByteArray.size_append,fourS_size p g i]; show 1+i=_; omega
def digB (g:Bool):ByteArray:=⟨(digL g).toArray⟩
theorem digB_ext (g:Bool):∀v:Fin 16,(digB g).extract v.1 (v.1+1)=⟨#[dg g v.1]⟩:=by cases g<;>decide +kernel
theorem digB_size (g:Bool):(digB g).size=16:=by cases g<;>rfl
set_option maxHeartbeats 4000000 in
theorem four_true (p:Nat)(hp:p<65536):Ok Tryz.prog 33 [vI p,vB true] (vS ⟨(fourL p true).toArray⟩):=by
 rw[<-fourS_4]
 refine Ok.of_pwp (by kernel_rfl) Tryz.func33 rfl (by kernel_rfl) (by kernel_rfl) ?_
 simp -implicitDefEqProofs (disch:=omega) only[go_sem,simprocAttr, ↓ix_enc]
 refine p_loop (ι:={ i:Nat // i<=4 }) (fun q=>⟨[(8,vI q.1),(0,vI (p/16^q.1:Nat)),(5,vS (digB true)),(6,vS (fourS p true q.1))],[],[],0,0⟩) (fun q=>4-q.1) ⟨0,Nat.zero_le _⟩ ?_ ?_
 ·simp only[fourS,Nat.pow_zero,Nat.div_one]
  constructor<;>simp only[go_sem,simprocAttr,decide_eq_true_eq,Int.natCast_zero]<;>try ((repeat' apply And.intro)<;>first|rfl|omega|(congr 3; omega)|(congr 2; omega))
 rintro⟨i,hi⟩
 simp only
 have hq:p/16^i<65536:=Nat.lt_of_le_of_lt (Nat.div_le_self _ _) hp
 by_cases hlt:i<4
 ·have e1:p/16^(i+1)=p/16^i/16:=by rw[Nat.pow_succ,Nat.div_div_eq_div_mul]
  have hs:=fourS_size p true i
  have e2:fourS p true (i+1)=⟨#[dg true (p/16^i%16)]⟩++fourS p true i:=rfl
  generalize p/16^i=q at *
  have t1:Int.tmod (q:Int) 16=((q%16:Nat):Int):=by rw[Int.tmod_eq_emod_of_nonneg (by omega)]; omega
  have t2:Int.tdiv (q:Int) 16=((q/16:Nat):Int):=by rw[Int.tdiv_eq_ediv_of_nonneg (by omega)]; omega
  have x1:=digB_ext true ⟨q%16,by omega⟩
  have hz:=digB_size true
  simp only at x1
  have x2:(((q%16:Nat):Int)+1).toNat=q%16+1:=by omega
  simp -implicitDefEqProofs (disch:=omega) only[go_sem,simprocAttr, ↓ix_enc,decide_eq_true (show(i:Int)<4 by omega),t1,t2,x2,x1,<-e2]
  refine⟨by rw[hs]; show 1+i<=_; omega,⟨i+1,hlt⟩,by simp only; omega,?_⟩
  simp only[e1]
  constructor<;>simp only[go_sem,simprocAttr,decide_eq_true_eq,Int.natCast_add,Int.natCast_one]<;>try ((repeat' apply And.intro)<;>first|rfl|omega|(congr 3; omega)|(congr 2; omega))
 ·obtain rfl:i=4:=by omega
  simp -implicitDefEqProofs (disch:=omega) only[go_sem,simprocAttr, ↓ix_enc]
set_option maxHeartbeats 4000000 in
theorem four_false (p:Nat)(hp:p<65536):Ok Tryz.prog 33 [vI p,vB false] (vS ⟨(fourL p false).toArray⟩):=by
 rw[<-fourS_4]
 refine Ok.of_pwp (by kernel_rfl) Tryz.func33 rfl (by kernel_rfl) (by kernel_rfl) ?_
 simp -implicitDefEqProofs (disch:=omega) only[go_sem,simprocAttr, ↓ix_enc]
 refine p_loop (ι:={ i:Nat // i<=4 }) (fun q=>⟨[(8,vI q.1),(0,vI (p/16^q.1:Nat)),(5,vS (digB false)),(6,vS (fourS p false q.1))],[],[],0,0⟩) (fun q=>4-q.1) ⟨0,Nat.zero_le _⟩ ?_ ?_
 ·simp only[fourS,Nat.pow_zero,Nat.div_one]
  constructor<;>simp only[go_sem,simprocAttr,decide_eq_true_eq,Int.natCast_zero]<;>try ((repeat' apply And.intro)<;>first|rfl|omega|(congr 3; omega)|(congr 2; omega))
 rintro⟨i,hi⟩
 simp only
 have hq:p/16^i<65536:=Nat.lt_of_le_of_lt (Nat.div_le_self _ _) hp
 by_cases hlt:i<4
 ·have e1:p/16^(i+1)=p/16^i/16:=by rw[Nat.pow_succ,Nat.div_div_eq_div_mul]
  have hs:=fourS_size p false i
  have e2:fourS p false (i+1)=⟨#[dg false (p/16^i%16)]⟩++fourS p false i:=rfl
  generalize p/16^i=q at *
  have t1:Int.tmod (q:Int) 16=((q%16:Nat):Int):=by rw[Int.tmod_eq_emod_of_nonneg (by omega)]; omega
  have t2:Int.tdiv (q:Int) 16=((q/16:Nat):Int):=by rw[Int.tdiv_eq_ediv_of_nonneg (by omega)]; omega
  have x1:=digB_ext false ⟨q%16,by omega⟩
  have hz:=digB_size false
  simp only at x1
  have x2:(((q%16:Nat):Int)+1).toNat=q%16+1:=by omega
  simp -implicitDefEqProofs (disch:=omega) only[go_sem,simprocAttr, ↓ix_enc,decide_eq_true (show(i:Int)<4 by omega),t1,t2,x2,x1,<-e2]
  refine⟨by rw[hs]; show 1+i<=_; omega,⟨i+1,hlt⟩,by simp only; omega,?_⟩
  simp only[e1]
  constructor<;>simp only[go_sem,simprocAttr,decide_eq_true_eq,Int.natCast_add,Int.natCast_one]<;>try ((repeat' apply And.intro)<;>first|rfl|omega|(congr 3; omega)|(congr 2; omega))
 ·obtain rfl:i=4:=by omega
  simp -implicitDefEqProofs (disch:=omega) only[go_sem,simprocAttr, ↓ix_enc]
theorem four_ok (p:Nat)(g:Bool)(hp:p<65536):Ok Tryz.prog 33 [vI p,vB g] (vS ⟨(fourL p g).toArray⟩):=by
 cases g with
 |true=>exact four_true p hp
 |false=>exact four_false p hp
def pcL (k p:Int):List UInt8:=
 if p=34∨p=92∨(p=47/\k%2=0) then 92::rawL p else
 if p<32∨(p<65536/\k%3=0) then 92::117::fourL p.toNat (decide (k%2=0)) else
 if 65536<=p/\k%3=0 then 92::117::(fourL (55296+(p-65536)/1024).toNat (decide (k%2=0))++(92::117::fourL (56320+(p-65536)%1024).toNat (decide (k%2=1)))) else rawL p
def tpL:Int->List Int->List (Int×List UInt8)
 |_,[]=>[]
 |k,p::r=>(p,pcL k p)::tpL (k+1) r
theorem tpL_pts:∀(l:List Int)(k:Int),(tpL k l).map (·.1)=l
 | [],k=>rfl
 |p::r,k=>by rw[tpL,List.map_cons,tpL_pts r]
theorem dg_facts (g:Bool):∀v:Fin 16,hxL.contains (dg g v.1)=true/\hxD (dg g v.1)=(v.1:Int):=by cases g<;>decide +kernel
theorem fourL_hex (p:Nat)(g:Bool)(hp:p<65536):(fourL p g).length=4/\(∀d∈fourL p g,hxL.contains d=true)/\hxN (fourL p g) 0=(p:Int):=by
 have f:=fun v (h:v<16)=>dg_facts g ⟨v,h⟩
 refine⟨rfl,fun d hd=>?_,?_⟩
 ·simp only[fourL,List.mem_cons,List.not_mem_nil,or_false]at hd
  rcases hd with rfl|rfl|rfl|rfl<;>exact(f _ (by omega)).1
 ·unfold fourL hxN
  simp only[List.foldl_cons,List.foldl_nil]
  have h1:=(f (p/4096%16) (by omega)).2
  have h2:=(f (p/256%16) (by omega)).2
  have h3:=(f (p/16%16) (by omega)).2
  have h4:=(f (p%16) (by omega)).2
  simp only at h1 h2 h3 h4
  rw[h1,h2,h3,h4]
  omega
theorem piece_pc (k p:Int)(hp:isF p=true):Piece p (pcL k p):=by
 have hp':=hp
 unfold isF at hp'
 simp only[decide_eq_true_eq]at hp'
 unfold pcL
 by_cases c1:p=34∨p=92∨(p=47/\k%2=0)
 ·rw[if_pos c1]
  rcases c1 with rfl|rfl|⟨rfl,_⟩
  ·exact piece_two 34 (by decide)
  ·exact piece_two 92 (by decide)
  ·exact piece_two 47 (by decide)
 rw[if_neg c1]
 by_cases c2:p<32∨(p<65536/\k%3=0)
 ·rw[if_pos c2]
  obtain⟨h1,h2,h3⟩:=fourL_hex p.toNat (decide (k%2=0)) (by omega)
  have e:hxN (fourL p.toNat (decide (k%2=0))) 0=p:=by rw[h3]; omega
  have:=piece_u h1 h2 (by rw[e]; exact hp)
  rw[e]at this
  exact this
 rw[if_neg c2]
 by_cases c3:65536<=p/\k%3=0
 ·rw[if_pos c3]
  obtain⟨h1,h2,h3⟩:=fourL_hex (55296+(p-65536)/1024).toNat (decide (k%2=0)) (by omega)
  obtain⟨g1,g2,g3⟩:=fourL_hex (56320+(p-65536)%1024).toNat (decide (k%2=1)) (by omega)
  have e3:((55296+(p-65536)/1024).toNat:Int)=55296+(p-65536)/1024:=by omega
  have f3:((56320+(p-65536)%1024).toNat:Int)=56320+(p-65536)%1024:=by omega
  rw[e3]at h3
  rw[f3]at g3
  have hpr:pairF (55296+(p-65536)/1024) (56320+(p-65536)%1024)=p:=by
   unfold pairF
   rw[if_pos (by omega)]
   omega
  have:=piece_pair h1 h2 g1 g2 (by rw[h3]; unfold isF; simp; omega) (by rw[h3,g3,hpr]; omega)
  rw[h3,g3,hpr]at this
  exact this
 rw[if_neg c3]
 exact piece_raw hp (by omega) (fun h=>c1 (.inl h)) (fun h=>c1 (.inr (.inl h)))
theorem tpL_ok:∀(l:List Int)(k:Int),(∀p∈l,isF p=true)->∀x∈tpL k l,Piece x.1 x.2
 | [],k,h,x,hx=>by cases hx
 |p::r,k,h,x,hx=>by
  rw[tpL]at hx
  rcases List.mem_cons.1 hx with rfl|hx
  ·exact piece_pc k p (h p (List.mem_cons_self))
  ·exact tpL_ok r (k+1) (fun q hq=>h q (List.mem_cons_of_mem _ hq)) x hx
end Go.Proofs.YtcgmpcbkndpmbaaGreatDoor

end
section
open Go Go.Proofs Go.Pw Go.RowKit
namespace Go.Proofs.YtcgmpcbkndpmbaaGreatDoor
set_option maxRecDepth 4000
set_option linter.unusedVariables false
set_option linter.unusedSimpArgs false
attribute [local go_sem] List.length_append Nat.le_refl Tryz.results16 encI_len
theorem tpL_take:∀(l:List Int)(k:Int)(i:Nat),i<l.length->(tpL k (l.take (i+1))).flatMap (·.2)=(tpL k (l.take i)).flatMap (·.2)++pcL (k+i) (l.getD i 0)
 | [],k,i,h=>by simp at h
 |p::r,k,0,h=>by simp[tpL]
 |p::r,k,i+1,h=>by
  rw[List.take_succ_cons,List.take_succ_cons,tpL,tpL,List.flatMap_cons,List.flatMap_cons,tpL_take r (k+1) i (by simpa using h),List.append_assoc,List.getD_cons_succ]
  congr 3
  omega
theorem rawL_le (p:Int):(rawL p).length<=4:=by rw[rawL_len]; exact(bytesF_len p).2
theorem pcL_len (k p:Int):(pcL k p).length<=12:=by
 have:=rawL_le p
 unfold pcL
 repeat' split
 all_goals (simp[fourL]; try omega)
theorem tpL_len:∀(l:List Int)(k:Int),((tpL k l).flatMap (·.2)).length<=12*l.length
 | [],k=>by simp[tpL]
 |p::r,k=>by
  have:=tpL_len r (k+1)
  have:=pcL_len k p
  rw[tpL,List.flatMap_cons,List.length_append,List.length_cons]
  simp only
  omega
def outS (n:Int)(l:List Int)(i:Nat):ByteArray:=⟨(34::(tpL n (l.take i)).flatMap (·.2)).toArray⟩
theorem out_step {n:Int}{l:List Int}{i:Nat}(h:i<l.length){X:ByteArray}(hX:X.data.toList=pcL (n+i) (l.getD i 0)):outS n l i++X=outS n l (i+1):=by
 apply ByteArray.ext
 apply Array.ext'
 rw[ByteArray.data_append,Array.toList_append,hX]
 unfold outS
 rw[tpL_take l n i h]
 simp
theorem out_size (n:Int)(l:List Int)(i:Nat):(outS n l i).size<=1+12*l.length:=by
 have:=tpL_len (l.take i) n
 rw[List.length_take]at this
 show(outS n l i).data.size<=_
 unfold outS
 simp only[List.size_toArray,List.length_cons]
 omega
theorem out_end (n:Int)(l:List Int):outS n l l.length++⟨#[34]⟩=⟨(quL (tpL n l)).toArray⟩:=by
 apply ByteArray.ext
 apply Array.ext'
 rw[ByteArray.data_append,Array.toList_append]
 unfold outS quL
 rw[List.take_length]
 simp
def tB (n:Int)(s:ByteArray):ByteArray:=⟨(quL (tpL n (scan s 0).1)).toArray⟩
set_option maxHeartbeats 32000000 in
theorem ltxt_ok (s:ByteArray)(n:Int)(hs:s.size<=100000)(ht:isT s=true)(hn:0<=n/\n<=255):Ok Tryz.prog 16 [vS s,vC n] (vS (tB n s)):=by
 have cp:=rpoints_ok s (by omega)
 have hl:=(scan_len s 0 (Nat.zero_le _)).2.2
 have hF:=(scan_bytes s 0 (Nat.zero_le _) (by unfold isT at ht; simpa using ht)).2
 unfold tB
 generalize (scan s 0).2=e2 at *
 generalize (scan s 0).1=l at *
 refine Ok.of_pwp (by kernel_rfl) Tryz.func16 rfl (by kernel_rfl) (by kernel_rfl) ?_
 simp -implicitDefEqProofs (disch:=omega) only[go_sem,simprocAttr, ↓ix_enc]
 with_reducible refine CallOk.of cp rfl ?_
 simp -implicitDefEqProofs (disch:=omega) only[go_sem,simprocAttr, ↓ix_enc]
 refine p_loop (ι:={ i:Nat // i<=l.length }) (fun q=>⟨[(18,vI q.1),(17,vI l.length),(16,.sl (encI l)),(7,vS (outS n l q.1)),(1,vC n)],[],[],0,0⟩) (fun q=>l.length-q.1) ⟨0,Nat.zero_le _⟩ ?_ ?_
 ·simp only[outS,List.take_zero,tpL,List.flatMap_nil]
  constructor<;>simp only[go_sem,simprocAttr,decide_eq_true_eq,Int.natCast_zero]<;>try ((repeat' apply And.intro)<;>first|rfl|omega|(congr 3; omega)|(congr 2; omega))
 rintro⟨i,hi⟩
 simp only
 have hos:=out_size n l i
 by_cases hlt:i<l.length
 rotate_left
 ·obtain rfl:i=l.length:=by omega
  simp -implicitDefEqProofs (disch:=omega) only[go_sem,simprocAttr, ↓ix_enc,decide_eq_false (show ¬(l.length:Int)<(l.length:Int) by omega)]
  refine⟨by show _+1<=_; omega,?_⟩
  rw[out_end]
  try rfl
 have hp:isF (l.getD i 0)=true:=hF _ (by rw[List.getD_eq_getElem?_getD,List.getElem?_eq_getElem hlt]; exact List.getElem_mem hlt)
 have hpr:0<=l.getD i 0/\l.getD i 0<=1114111:=by unfold isF at hp; simp only[decide_eq_true_eq]at hp; omega
 obtain⟨p,hpk⟩:∃p,l.getD i 0=p:=⟨_,rfl⟩
 obtain⟨k2,hk2e⟩:∃k2,(n+i)%2=k2:=⟨_,rfl⟩
 obtain⟨k3,hk3e⟩:∃k3,(n+i)%3=k3:=⟨_,rfl⟩
 rw[hpk]at hp hpr
 have hk2r:0<=k2/\k2<2:=by omega
 have w1:IntKind.wrap .i64 (n+(i:Int))=n+i:=by rw[IntKind.wrap_i64]; omega
 have w2:IntKind.wrap .i64 n=n:=by rw[IntKind.wrap_i64]; omega
 have t2:Int.tmod (n+(i:Int)) 2=k2:=by rw[Int.tmod_eq_emod_of_nonneg (by omega)]; omega
 have t3:Int.tmod (n+(i:Int)) 3=k3:=by rw[Int.tmod_eq_emod_of_nonneg (by omega)]; omega
 have ct:Ok Tryz.prog 32 [.sl [[vI p]]] (vS ⟨(rawL p).toArray⟩):=by
  have:=ptext_ok [p] (fun x hx=>by rw[List.mem_singleton]at hx; subst hx; exact hpr) (by simp)
  have e:strOfNums (textN [p])=⟨(rawL p).toArray⟩:=by
   unfold rawL textN
   simp
  rw[e]at this
  exact this
 have z1:=rawL_le p
 have z2:(⟨(rawL p).toArray⟩:ByteArray).size=(rawL p).length:=by show(rawL p).toArray.size=_; simp
 simp -implicitDefEqProofs (disch:=omega) only[go_sem,simprocAttr, ↓ix_enc,decide_eq_true (show(i:Int)<(l.length:Int) by omega),hpk]
 by_cases h34:p=34
 ·have hX:outS n l i++(⟨#[92]⟩++⟨(rawL p).toArray⟩)=outS n l (i+1):=out_step hlt (by rw[hpk]; unfold pcL; rw[hk2e,if_pos (by first|exact .inl h34|exact .inr (.inl h92)|exact .inr (.inr ⟨h47,hk2⟩))]; simp)
  simp -implicitDefEqProofs (disch:=omega) only[go_sem,simprocAttr, ↓ix_enc,w1,w2,t2,t3,decide_eq_true h34]
  with_reducible refine CallOk.of ct rfl ?_
  simp -implicitDefEqProofs (disch:=omega) only[go_sem,simprocAttr, ↓ix_enc,w1,w2,t2,t3,decide_eq_true h34,hX]
  refine⟨by simp only[List.size_toArray,fourL,List.length_cons,List.length_nil,ByteArray.size_append]; omega,?_⟩
  refine⟨by simp only[List.size_toArray,fourL,List.length_cons,List.length_nil,ByteArray.size_append]; omega,?_⟩
  refine⟨⟨i+1,hlt⟩,by simp only; omega,?_⟩
  constructor<;>simp only[go_sem,simprocAttr,decide_eq_true_eq,Int.natCast_add,Int.natCast_one]<;>try ((repeat' apply And.intro)<;>first|rfl|omega|(congr 3; omega)|(congr 2; omega))
 ·by_cases h92:p=92
  ·have hX:outS n l i++(⟨#[92]⟩++⟨(rawL p).toArray⟩)=outS n l (i+1):=out_step hlt (by rw[hpk]; unfold pcL; rw[hk2e,if_pos (by first|exact .inl h34|exact .inr (.inl h92)|exact .inr (.inr ⟨h47,hk2⟩))]; simp)
   simp -implicitDefEqProofs (disch:=omega) only[go_sem,simprocAttr, ↓ix_enc,w1,w2,t2,t3,decide_eq_false h34,decide_eq_true h92]
   with_reducible refine CallOk.of ct rfl ?_
   simp -implicitDefEqProofs (disch:=omega) only[go_sem,simprocAttr, ↓ix_enc,w1,w2,t2,t3,decide_eq_false h34,decide_eq_true h92,hX]
   refine⟨by simp only[List.size_toArray,fourL,List.length_cons,List.length_nil,ByteArray.size_append]; omega,?_⟩
   refine⟨by simp only[List.size_toArray,fourL,List.length_cons,List.length_nil,ByteArray.size_append]; omega,?_⟩
   refine⟨⟨i+1,hlt⟩,by simp only; omega,?_⟩
   constructor<;>simp only[go_sem,simprocAttr,decide_eq_true_eq,Int.natCast_add,Int.natCast_one]<;>try ((repeat' apply And.intro)<;>first|rfl|omega|(congr 3; omega)|(congr 2; omega))
  ·by_cases h47:p=47
   ·by_cases hk2:k2=0
    ·have hX:outS n l i++(⟨#[92]⟩++⟨(rawL p).toArray⟩)=outS n l (i+1):=out_step hlt (by rw[hpk]; unfold pcL; rw[hk2e,if_pos (by first|exact .inl h34|exact .inr (.inl h92)|exact .inr (.inr ⟨h47,hk2⟩))]; simp)
     simp -implicitDefEqProofs (disch:=omega) only[go_sem,simprocAttr, ↓ix_enc,w1,w2,t2,t3,decide_eq_false h34,decide_eq_false h92,decide_eq_true h47,decide_eq_true hk2,decide_eq_false (show ¬k2=1 by omega)]
     with_reducible refine CallOk.of ct rfl ?_
     simp -implicitDefEqProofs (disch:=omega) only[go_sem,simprocAttr, ↓ix_enc,w1,w2,t2,t3,decide_eq_false h34,decide_eq_false h92,decide_eq_true h47,decide_eq_true hk2,decide_eq_false (show ¬k2=1 by omega),hX]
     refine⟨by simp only[List.size_toArray,fourL,List.length_cons,List.length_nil,ByteArray.size_append]; omega,?_⟩
     refine⟨by simp only[List.size_toArray,fourL,List.length_cons,List.length_nil,ByteArray.size_append]; omega,?_⟩
     refine⟨⟨i+1,hlt⟩,by simp only; omega,?_⟩
     constructor<;>simp only[go_sem,simprocAttr,decide_eq_true_eq,Int.natCast_add,Int.natCast_one]<;>try ((repeat' apply And.intro)<;>first|rfl|omega|(congr 3; omega)|(congr 2; omega))
    ·by_cases hk3:k3=0
     ·have hX:outS n l i++(⟨#[92,117]⟩++⟨(fourL p.toNat (decide (k2=0))).toArray⟩)=outS n l (i+1):=out_step hlt (by rw[hpk]; unfold pcL; rw[hk2e,hk3e,if_neg (by rintro(h|h|⟨h,h'⟩)<;>first|exact h34 h|exact h92 h|exact h47 h|exact hk2 h'),if_pos (by first|exact .inl h32|exact .inr ⟨by omega,hk3⟩)]; simp)
      have cf:=four_ok p.toNat (decide (k2=0)) (by omega)
      rw[show((p.toNat:Nat):Int)=p by omega]at cf
      simp -implicitDefEqProofs (disch:=omega) only[go_sem,simprocAttr, ↓ix_enc,w1,w2,t2,t3,decide_eq_false h34,decide_eq_false h92,decide_eq_true h47,decide_eq_false hk2,decide_eq_true hk3]
      first|(with_reducible refine CallOk.of cf rfl ?_)|(rw[decide_eq_true hk2]at cf hX; with_reducible refine CallOk.of cf rfl ?_)|(rw[decide_eq_false hk2]at cf hX; with_reducible refine CallOk.of cf rfl ?_)
      simp -implicitDefEqProofs (disch:=omega) only[go_sem,simprocAttr, ↓ix_enc,w1,w2,t2,t3,decide_eq_false h34,decide_eq_false h92,decide_eq_true h47,decide_eq_false hk2,decide_eq_true hk3,hX]
      refine⟨by simp only[List.size_toArray,fourL,List.length_cons,List.length_nil,ByteArray.size_append]; omega,?_⟩
      refine⟨by simp only[List.size_toArray,fourL,List.length_cons,List.length_nil,ByteArray.size_append]; omega,?_⟩
      refine⟨⟨i+1,hlt⟩,by simp only; omega,?_⟩
      constructor<;>simp only[go_sem,simprocAttr,decide_eq_true_eq,Int.natCast_add,Int.natCast_one]<;>try ((repeat' apply And.intro)<;>first|rfl|omega|(congr 3; omega)|(congr 2; omega))
     ·have hX:outS n l i++⟨(rawL p).toArray⟩=outS n l (i+1):=out_step hlt (by rw[hpk]; unfold pcL; rw[hk2e,hk3e,if_neg (by rintro(h|h|⟨h,h'⟩)<;>first|exact h34 h|exact h92 h|exact h47 h|exact hk2 h'),if_neg (by rintro(h|⟨h,h'⟩)<;>first|omega|exact hk3 h'),if_neg (by rintro⟨h,h'⟩<;>first|omega|exact hk3 h')])
      simp -implicitDefEqProofs (disch:=omega) only[go_sem,simprocAttr, ↓ix_enc,w1,w2,t2,t3,decide_eq_false h34,decide_eq_false h92,decide_eq_true h47,decide_eq_false hk2,decide_eq_false hk3]
      with_reducible refine CallOk.of ct rfl ?_
      simp -implicitDefEqProofs (disch:=omega) only[go_sem,simprocAttr, ↓ix_enc,w1,w2,t2,t3,decide_eq_false h34,decide_eq_false h92,decide_eq_true h47,decide_eq_false hk2,decide_eq_false hk3,hX]
      refine⟨⟨i+1,hlt⟩,by simp only; omega,?_⟩
      constructor<;>simp only[go_sem,simprocAttr,decide_eq_true_eq,Int.natCast_add,Int.natCast_one]<;>try ((repeat' apply And.intro)<;>first|rfl|omega|(congr 3; omega)|(congr 2; omega))
   ·by_cases h32:p<32
    ·have hX:outS n l i++(⟨#[92,117]⟩++⟨(fourL p.toNat (decide (k2=0))).toArray⟩)=outS n l (i+1):=out_step hlt (by rw[hpk]; unfold pcL; rw[hk2e,hk3e,if_neg (by rintro(h|h|⟨h,h'⟩)<;>first|exact h34 h|exact h92 h|exact h47 h|exact hk2 h'),if_pos (by first|exact .inl h32|exact .inr ⟨by omega,hk3⟩)]; simp)
     have cf:=four_ok p.toNat (decide (k2=0)) (by omega)
     rw[show((p.toNat:Nat):Int)=p by omega]at cf
     simp -implicitDefEqProofs (disch:=omega) only[go_sem,simprocAttr, ↓ix_enc,w1,w2,t2,t3,decide_eq_false h34,decide_eq_false h92,decide_eq_false h47,decide_eq_true h32]
     first|(with_reducible refine CallOk.of cf rfl ?_)|(rw[decide_eq_true hk2]at cf hX; with_reducible refine CallOk.of cf rfl ?_)|(rw[decide_eq_false hk2]at cf hX; with_reducible refine CallOk.of cf rfl ?_)
     simp -implicitDefEqProofs (disch:=omega) only[go_sem,simprocAttr, ↓ix_enc,w1,w2,t2,t3,decide_eq_false h34,decide_eq_false h92,decide_eq_false h47,decide_eq_true h32,hX]
     refine⟨by simp only[List.size_toArray,fourL,List.length_cons,List.length_nil,ByteArray.size_append]; omega,?_⟩
     refine⟨by simp only[List.size_toArray,fourL,List.length_cons,List.length_nil,ByteArray.size_append]; omega,?_⟩
     refine⟨⟨i+1,hlt⟩,by simp only; omega,?_⟩
     constructor<;>simp only[go_sem,simprocAttr,decide_eq_true_eq,Int.natCast_add,Int.natCast_one]<;>try ((repeat' apply And.intro)<;>first|rfl|omega|(congr 3; omega)|(congr 2; omega))
    ·by_cases h64:p<65536
     ·by_cases hk3:k3=0
      ·have hX:outS n l i++(⟨#[92,117]⟩++⟨(fourL p.toNat (decide (k2=0))).toArray⟩)=outS n l (i+1):=out_step hlt (by rw[hpk]; unfold pcL; rw[hk2e,hk3e,if_neg (by rintro(h|h|⟨h,h'⟩)<;>first|exact h34 h|exact h92 h|exact h47 h|exact hk2 h'),if_pos (by first|exact .inl h32|exact .inr ⟨by omega,hk3⟩)]; simp)
       have cf:=four_ok p.toNat (decide (k2=0)) (by omega)
       rw[show((p.toNat:Nat):Int)=p by omega]at cf
       simp -implicitDefEqProofs (disch:=omega) only[go_sem,simprocAttr, ↓ix_enc,w1,w2,t2,t3,decide_eq_false h34,decide_eq_false h92,decide_eq_false h47,decide_eq_false h32,decide_eq_true h64,decide_eq_true hk3,decide_eq_false (show ¬65536<=p by omega)]
       first|(with_reducible refine CallOk.of cf rfl ?_)|(rw[decide_eq_true hk2]at cf hX; with_reducible refine CallOk.of cf rfl ?_)|(rw[decide_eq_false hk2]at cf hX; with_reducible refine CallOk.of cf rfl ?_)
       simp -implicitDefEqProofs (disch:=omega) only[go_sem,simprocAttr, ↓ix_enc,w1,w2,t2,t3,decide_eq_false h34,decide_eq_false h92,decide_eq_false h47,decide_eq_false h32,decide_eq_true h64,decide_eq_true hk3,decide_eq_false (show ¬65536<=p by omega),hX]
       refine⟨by simp only[List.size_toArray,fourL,List.length_cons,List.length_nil,ByteArray.size_append]; omega,?_⟩
       refine⟨by simp only[List.size_toArray,fourL,List.length_cons,List.length_nil,ByteArray.size_append]; omega,?_⟩
       refine⟨⟨i+1,hlt⟩,by simp only; omega,?_⟩
       constructor<;>simp only[go_sem,simprocAttr,decide_eq_true_eq,Int.natCast_add,Int.natCast_one]<;>try ((repeat' apply And.intro)<;>first|rfl|omega|(congr 3; omega)|(congr 2; omega))
      ·have hX:outS n l i++⟨(rawL p).toArray⟩=outS n l (i+1):=out_step hlt (by rw[hpk]; unfold pcL; rw[hk2e,hk3e,if_neg (by rintro(h|h|⟨h,h'⟩)<;>first|exact h34 h|exact h92 h|exact h47 h|exact hk2 h'),if_neg (by rintro(h|⟨h,h'⟩)<;>first|omega|exact hk3 h'),if_neg (by rintro⟨h,h'⟩<;>first|omega|exact hk3 h')])
       simp -implicitDefEqProofs (disch:=omega) only[go_sem,simprocAttr, ↓ix_enc,w1,w2,t2,t3,decide_eq_false h34,decide_eq_false h92,decide_eq_false h47,decide_eq_false h32,decide_eq_true h64,decide_eq_false hk3,decide_eq_false (show ¬65536<=p by omega)]
       with_reducible refine CallOk.of ct rfl ?_
       simp -implicitDefEqProofs (disch:=omega) only[go_sem,simprocAttr, ↓ix_enc,w1,w2,t2,t3,decide_eq_false h34,decide_eq_false h92,decide_eq_false h47,decide_eq_false h32,decide_eq_true h64,decide_eq_false hk3,decide_eq_false (show ¬65536<=p by omega),hX]
       refine⟨⟨i+1,hlt⟩,by simp only; omega,?_⟩
       constructor<;>simp only[go_sem,simprocAttr,decide_eq_true_eq,Int.natCast_add,Int.natCast_one]<;>try ((repeat' apply And.intro)<;>first|rfl|omega|(congr 3; omega)|(congr 2; omega))
     ·by_cases hk3:k3=0
      ·have hX:outS n l i++(⟨#[92,117]⟩++⟨(fourL (55296+(p-65536)/1024).toNat (decide (k2=0))).toArray⟩++⟨#[92,117]⟩++⟨(fourL (56320+(p-65536)%1024).toNat (decide (k2=1))).toArray⟩)=outS n l (i+1):=out_step hlt (by rw[hpk]; unfold pcL; rw[hk2e,hk3e,if_neg (by rintro(h|h|⟨h,h'⟩)<;>first|exact h34 h|exact h92 h|exact h47 h|exact hk2 h'),if_neg (by rintro(h|⟨h,h'⟩)<;>first|omega|exact hk3 h'),if_pos ⟨by omega,hk3⟩]; simp)
       have cf:=four_ok (55296+(p-65536)/1024).toNat (decide (k2=0)) (by omega)
       have cg:=four_ok (56320+(p-65536)%1024).toNat (decide (k2=1)) (by omega)
       rw[show((55296+(p-65536)/1024).toNat:Int)=55296+(p-65536)/1024 by omega]at cf
       rw[show((56320+(p-65536)%1024).toNat:Int)=56320+(p-65536)%1024 by omega]at cg
       have d1:Int.tdiv (p-65536) 1024=(p-65536)/1024:=Int.tdiv_eq_ediv_of_nonneg (by omega)
       have d2:Int.tmod (p-65536) 1024=(p-65536)%1024:=Int.tmod_eq_emod_of_nonneg (by omega)
       simp -implicitDefEqProofs (disch:=omega) only[go_sem,simprocAttr, ↓ix_enc,w1,w2,t2,t3,decide_eq_false h34,decide_eq_false h92,decide_eq_false h47,decide_eq_false h32,decide_eq_false h64,decide_eq_true hk3,decide_eq_true (show 65536<=p by omega),d1,d2]
       with_reducible refine CallOk.of cf rfl ?_
       simp -implicitDefEqProofs (disch:=omega) only[go_sem,simprocAttr, ↓ix_enc,w1,w2,t2,t3,decide_eq_false h34,decide_eq_false h92,decide_eq_false h47,decide_eq_false h32,decide_eq_false h64,decide_eq_true hk3,decide_eq_true (show 65536<=p by omega),d1,d2]
       refine⟨by simp only[List.size_toArray,fourL,List.length_cons,List.length_nil,ByteArray.size_append]; omega,?_⟩
       refine⟨by simp only[List.size_toArray,fourL,List.length_cons,List.length_nil,ByteArray.size_append]; omega,?_⟩
       with_reducible refine CallOk.of cg rfl ?_
       simp -implicitDefEqProofs (disch:=omega) only[go_sem,simprocAttr, ↓ix_enc,w1,w2,t2,t3,decide_eq_false h34,decide_eq_false h92,decide_eq_false h47,decide_eq_false h32,decide_eq_false h64,decide_eq_true hk3,decide_eq_true (show 65536<=p by omega),d1,d2,hX]
       refine⟨by simp only[List.size_toArray,fourL,List.length_cons,List.length_nil,ByteArray.size_append]; omega,?_⟩
       refine⟨by simp only[List.size_toArray,fourL,List.length_cons,List.length_nil,ByteArray.size_append]; omega,?_⟩
       refine⟨⟨i+1,hlt⟩,by simp only; omega,?_⟩
       constructor<;>simp only[go_sem,simprocAttr,decide_eq_true_eq,Int.natCast_add,Int.natCast_one]<;>try ((repeat' apply And.intro)<;>first|rfl|omega|(congr 3; omega)|(congr 2; omega))
      ·have hX:outS n l i++⟨(rawL p).toArray⟩=outS n l (i+1):=out_step hlt (by rw[hpk]; unfold pcL; rw[hk2e,hk3e,if_neg (by rintro(h|h|⟨h,h'⟩)<;>first|exact h34 h|exact h92 h|exact h47 h|exact hk2 h'),if_neg (by rintro(h|⟨h,h'⟩)<;>first|omega|exact hk3 h'),if_neg (by rintro⟨h,h'⟩<;>first|omega|exact hk3 h')])
       simp -implicitDefEqProofs (disch:=omega) only[go_sem,simprocAttr, ↓ix_enc,w1,w2,t2,t3,decide_eq_false h34,decide_eq_false h92,decide_eq_false h47,decide_eq_false h32,decide_eq_false h64,decide_eq_false hk3,decide_eq_true (show 65536<=p by omega)]
       with_reducible refine CallOk.of ct rfl ?_
       simp -implicitDefEqProofs (disch:=omega) only[go_sem,simprocAttr, ↓ix_enc,w1,w2,t2,t3,decide_eq_false h34,decide_eq_false h92,decide_eq_false h47,decide_eq_false h32,decide_eq_false h64,decide_eq_false hk3,decide_eq_true (show 65536<=p by omega),hX]
       refine⟨⟨i+1,hlt⟩,by simp only; omega,?_⟩
       constructor<;>simp only[go_sem,simprocAttr,decide_eq_true_eq,Int.natCast_add,Int.natCast_one]<;>try ((repeat' apply And.intro)<;>first|rfl|omega|(congr 3; omega)|(congr 2; omega))
end Go.Proofs.YtcgmpcbkndpmbaaGreatDoor

end
section
open Go Go.Proofs Go.Pw Go.RowKit
namespace Go.Proofs.YtcgmpcbkndpmbaaGreatDoor
set_option maxRecDepth 4000
set_option linter.unusedVariables false
set_option linter.unusedSimpArgs false
def bk (n:Int):ByteArray:=⟨(blkL n).toArray⟩
theorem bk_size (n:Int):(bk n).size<=3:=by
 have h:n%8=0∨n%8=1∨n%8=2∨n%8=3∨n%8=4∨n%8=5∨n%8=6∨n%8=7:=by omega
 unfold bk blkL
 rcases h with h|h|h|h|h|h|h|h<;>(rw[h]; decide)
def wN (w:List Int)(a:Int):Int:=if a<w.length then w.getD a.toNat 0 else a%256
abbrev bOne (c:UInt8):ByteArray:=⟨#[c]⟩
abbrev nullB:ByteArray:=⟨#[110,117,108,108]⟩
abbrev trueB:ByteArray:=⟨#[116,114,117,101]⟩
abbrev falseB:ByteArray:=⟨#[102,97,108,115,101]⟩
abbrev WF:=Int->ByteArray
def noW:WF:=fun _=>ByteArray.empty
def arB (fs:List WF)(a:Int):Nat->ByteArray
 |0=>ByteArray.empty
 |i+1=>(if 0<i then arB fs a i++bOne 44 else arB fs a i)++(fs.getD i noW) (a+i+1)
def obB (N:Int)(ks:List ByteArray)(fs:List WF)(a:Int):Nat->ByteArray
 |0=>ByteArray.empty
 |i+1=>(if 0<i then obB N ks fs a i++(bk N++bOne 44) else obB N ks fs a i)++(bk (N/8)++tB N (ks.getD i ByteArray.empty)++bk N++bOne 58++(fs.getD i noW) (a+i+1))
def rotL {α:Type}(n:Nat)(l:List α):List α:=l.drop n++l.take n
def wCore (N a:Int)(k:Int)(b:Bool)(n:Int)(s:ByteArray)(ks:List ByteArray)(fs:List WF):ByteArray:=
 if k=0 then nullB else if k=1 then(if b=true then trueB else falseB) else if k=2 then sOf n else if k=3 then tB N s else
 if k=4 then bOne 91++arB fs a fs.length++bk N++bOne 93 else
 bOne 123++obB N (rotL (N.toNat%fs.length) ks) (rotL (N.toNat%fs.length) fs) a fs.length++bk N++bOne 125
mutual
def wA (w:List Int):V->WF
 | .mk k b n s is ks=>fun a=>bk (wN w a)++wCore (wN w a) a k b n s ks (wAs w is)++bk (wN w a/3)
def wAs (w:List Int):List V->List WF
 | []=>[]
 |v::r=>wA w v::wAs w r
end
theorem wAs_eq (w:List Int):∀l,wAs w l=l.map (wA w)
 | []=>by simp[wAs]
 |v::r=>by simp[wAs,wAs_eq w r]
theorem wA_eq (w:List Int)(v:V)(a:Int):wA w v a=bk (wN w a)++wCore (wN w a) a v.kind v.b v.n v.s v.keys (v.items.map (wA w))++bk (wN w a/3):=by
 cases v; rw[wA,wAs_eq]; rfl
theorem rotL_len {α:Type}(n:Nat)(l:List α):(rotL n l).length=l.length:=by
 unfold rotL
 rw[List.length_append,List.length_drop,List.length_take]
 omega
theorem rotL_get {α:Type}{l:List α}{n i:Nat}(d:α)(hi:i<l.length):(rotL (n%l.length) l).getD i d=l.getD ((i+n)%l.length) d:=by
 have hm:n%l.length<l.length:=Nat.mod_lt _ (by omega)
 have he:(i+n)%l.length=(i+n%l.length)%l.length:=by rw[Nat.add_mod_mod]
 rw[he]
 generalize n%l.length=m at *
 unfold rotL
 rw[List.getD_eq_getElem?_getD,List.getD_eq_getElem?_getD,List.getElem?_append,List.length_drop]
 by_cases h:i<l.length-m
 ·rw[if_pos h,List.getElem?_drop,Nat.mod_eq_of_lt (by omega),Nat.add_comm]
 ·rw[if_neg h,List.getElem?_take_of_lt (by omega)]
  have:(i+m)%l.length=i-(l.length-m):=by
   rw[Nat.mod_eq_sub_mod (by omega),Nat.mod_eq_of_lt (by omega)]
   omega
  rw[this]
theorem rotL_map {α β:Type}(f:α->β)(n:Nat)(l:List α):rotL n (l.map f)=(rotL n l).map f:=by
 unfold rotL
 rw[List.map_append,List.map_drop,List.map_take]
theorem rotL_mem {α:Type}{n:Nat}{l:List α}{x:α}:x∈rotL n l↔x∈l:=by
 unfold rotL
 conv=>rhs; rw[<-List.take_append_drop n l]
 rw[List.mem_append,List.mem_append]
 exact Or.comm
theorem rotL_szVs (n:Nat)(l:List V):szVs (rotL n l)=szVs l:=by
 have h:=szVs_app (l.take n) (l.drop n)
 rw[List.take_append_drop]at h
 unfold rotL
 rw[szVs_app]
 omega
theorem rotL_szT (n:Nat)(l:List ByteArray):szT (rotL n l)=szT l:=by
 have h:=szT_appA (l.take n) (l.drop n)
 rw[List.take_append_drop]at h
 unfold rotL
 rw[szT_appA]
 omega
theorem takeV {l:List V}{i:Nat}(h:i<l.length):szVs (l.take (i+1))=szVs (l.take i)+szV (l.getD i default):=by
 have:=szVs_app (l.take i) [l.getD i default]
 rw[<-take_snocG h,szVs_cons,szVs_nil]at this
 omega
theorem takeT {l:List ByteArray}{i:Nat}(h:i<l.length):szT (l.take (i+1))=szT (l.take i)+(1+(l.getD i ByteArray.empty).size):=by
 have:=szT_appA (l.take i) [l.getD i ByteArray.empty]
 rw[<-take_snocG h,szT,szT]at this
 omega
theorem tB_size (N:Int)(s:ByteArray):(tB N s).size<=2+12*s.size:=by
 have h1:=(scan_len s 0 (Nat.zero_le _)).2.2
 have h2:=tpL_len (scan s 0).1 N
 show(tB N s).data.size<=_
 unfold tB quL
 simp only[List.size_toArray,List.length_cons,List.length_append,List.length_nil]
 omega
theorem fs_get {w:List Int}{l:List V}{i:Nat}(h:i<l.length):(l.map (wA w)).getD i noW=wA w (l.getD i default):=by
 rw[List.getD_eq_getElem?_getD,List.getD_eq_getElem?_getD,List.getElem?_map,List.getElem?_eq_getElem h]
 rfl
theorem arB_size {w:List Int}{l:List V}{a:Int}(ih:∀x∈l,∀a,(wA w x a).size+4<=60*szV x):∀i,i<=l.length->(arB (l.map (wA w)) a i).size<=60*szVs (l.take i)
 |0,h=>by simp[arB]
 |i+1,h=>by
  have h1:=arB_size (a:=a) ih i (by omega)
  have h2:=ih _ (getD_mem (d:=(default:V)) (show i<l.length by omega)) (a+i+1)
  rw[arB,fs_get (by omega),takeV (by omega),ByteArray.size_append]
  split
  ·rw[ByteArray.size_append]
   show(arB (l.map (wA w)) a i).size+1+_<=_
   omega
  ·omega
theorem obB_size {w:List Int}{ks:List ByteArray}{l:List V}{N a:Int}(hkl:ks.length=l.length)(ih:∀x∈l,∀a,(wA w x a).size+4<=60*szV x):∀i,i<=l.length->(obB N ks (l.map (wA w)) a i).size<=60*szVs (l.take i)+60*szT (ks.take i)
 |0,h=>by simp[obB]
 |i+1,h=>by
  have h1:=obB_size (N:=N) (a:=a) hkl ih i (by omega)
  have h2:=ih _ (getD_mem (d:=(default:V)) (show i<l.length by omega)) (a+i+1)
  have h3:=bk_size N
  have h4:=bk_size (N/8)
  have h5:=tB_size N (ks.getD i ByteArray.empty)
  have h6:(bOne 58).size=1:=rfl
  have h7:(bOne 44).size=1:=rfl
  rw[obB,fs_get (by omega),takeV (by omega),takeT (by omega)]
  split
  ·simp only[ByteArray.size_append,h6,h7]
   omega
  ·simp only[ByteArray.size_append,h6]
   omega
theorem wA_size (w:List Int):∀v,goodB v=true->fitV v=true->∀a,(wA w v a).size+4<=60*szV v:=by
 refine V.ind fun v ih hg hf a=>?_
 rw[goodB_eq]at hg
 rw[fitV_eq]at hf
 simp only[Bool.and_eq_true,decide_eq_true_eq]at hg hf
 obtain⟨⟨⟨⟨hk,hb⟩,hkd⟩,hs⟩,hi⟩:=hg
 obtain⟨hn,hfi⟩:=hf
 have ih':∀x∈v.items,∀a,(wA w x a).size+4<=60*szV x:=fun x hx a=>ih x hx (List.all_eq_true.1 hi x hx) (List.all_eq_true.1 hfi x hx) a
 have hz:=szV_eq v
 have z1:=bk_size (wN w a)
 have z2:=bk_size (wN w a/3)
 have z3:=tB_size (wN w a) v.s
 have z4:=sOf_size v.n hn
 have o1:(bOne 91).size=1:=rfl
 have o2:(bOne 93).size=1:=rfl
 have o3:(bOne 123).size=1:=rfl
 have o4:(bOne 125).size=1:=rfl
 rw[wA_eq]
 generalize wN w a=N at *
 have hcore:(wCore N a v.kind v.b v.n v.s v.keys (v.items.map (wA w))).size<=24+12*v.s.size+60*szVs v.items+60*szT v.keys:=by
  unfold wCore
  split
  ·have:nullB.size=4:=rfl; omega
  split
  ·have h1:trueB.size=4:=rfl
   have h2:falseB.size=5:=rfl
   split<;>omega
  split
  ·omega
  split
  ·omega
  split
  ·have:=arB_size (a:=a) ih' v.items.length (Nat.le_refl _)
   rw[List.take_length]at this
   rw[List.length_map]
   simp only[ByteArray.size_append,o1,o2]
   omega
  ·rename_i k0 k1 k2 k3 k4
   have hkl:v.keys.length=v.items.length:=by
    unfold keyedB at hkd
    simp only[Bool.and_eq_true,Bool.or_eq_true,decide_eq_true_eq]at hkd
    rcases hkd.2 with h|h
    ·omega
    ·exact h
   rw[List.length_map,rotL_map]
   have:=obB_size (w:=w) (N:=N) (a:=a) (ks:=rotL (N.toNat%v.items.length) v.keys) (l:=rotL (N.toNat%v.items.length) v.items) (by rw[rotL_len,rotL_len,hkl]) (fun x hx=>ih' x (rotL_mem.1 hx)) v.items.length (by rw[rotL_len]; exact Nat.le_refl _)
   have t1:(rotL (N.toNat%v.items.length) v.items).take v.items.length=rotL (N.toNat%v.items.length) v.items:=List.take_of_length_le (by rw[rotL_len]; exact Nat.le_refl _)
   have t2:(rotL (N.toNat%v.items.length) v.keys).take v.items.length=rotL (N.toNat%v.items.length) v.keys:=List.take_of_length_le (by rw[rotL_len,hkl]; exact Nat.le_refl _)
   rw[t1,t2,rotL_szVs,rotL_szT]at this
   simp only[ByteArray.size_append,o3,o4]
   omega
 simp only[ByteArray.size_append]
 omega
end Go.Proofs.YtcgmpcbkndpmbaaGreatDoor

end
section
open Go Go.Proofs Go.Pw Go.RowKit
namespace Go.Proofs.YtcgmpcbkndpmbaaGreatDoor
set_option maxRecDepth 4000
set_option linter.unusedVariables false
set_option linter.unusedSimpArgs false
attribute [local go_sem] List.length_cons List.length_nil List.size_toArray Nat.le_refl Tryz.results10 encC_len
theorem szT_takeM:∀(l:List ByteArray)(i:Nat),szT (l.take i)<=szT l
 | [],i=>by simp
 |x::r,0=>by simp[szT]
 |x::r,i+1=>by have:=szT_takeM r i; rw[List.take_succ_cons,szT,szT]; omega
theorem item_bound:∀{l:List V}{x:V},x∈l->szV x+l.length<=szVs l+1
 |y::r,x,h=>by
  have h1:=szVs_len r
  rw[szVs_cons,List.length_cons]
  rcases List.mem_cons.1 h with rfl|h
  ·omega
  ·have:=item_bound h
   have:=szV_eq y
   omega
set_option maxHeartbeats 16000000 in
theorem lwrite_ok (w:List Int)(hw:w.length<=100000)(hwr:∀n∈w,0<=n/\n<=255):∀v (a:Nat),goodB v=true->fitV v=true->szV v<=10000->a+szV v<=1000000000->Ok Tryz.prog 10 [.agg (cellsV v),.sl (encC w),vI a] (vS (wA w v a)):=by
 refine V.ind fun v ih a hg hf hz ha=>?_
 have hfs:=hf
 have hgs:=hg
 rw[goodB_eq]at hg
 rw[fitV_eq]at hf
 simp only[Bool.and_eq_true,decide_eq_true_eq]at hg hf
 obtain⟨⟨⟨⟨hk,hb⟩,hkd⟩,hst⟩,hi⟩:=hg
 obtain⟨hn,hfi⟩:=hf
 have hfn:fits v.n:=hn
 have hze:=szV_eq v
 have hsm:=V.small (v:=v) (B:=10000) hz
 have hfw:=V.few (v:=v) (B:=10000) hz
 have hzs:∀x∈v.items,∀a,(wA w x a).size+4<=60*szV x:=fun x hx a=>wA_size w x (List.all_eq_true.1 hi x hx) (List.all_eq_true.1 hfi x hx) a
 have hN:0<=wN w a/\wN w a<=255:=by
  unfold wN
  split
  ·exact hwr _ (by rw[List.getD_eq_getElem?_getD,List.getElem?_eq_getElem (by omega)]; exact List.getElem_mem (by omega))
  ·omega
 have wu:IntKind.wrap .u8 (a:Int)=(a:Int)%256:=by rw[IntKind.wrap_u8]
 have c0:=blanks_ok (wN w a) hN
 have c3:=blanks_ok (wN w a/3) (by omega)
 have c8:=blanks_ok (wN w a/8) (by omega)
 have ct:=ltxt_ok v.s (wN w a) (by omega) hst hN
 have d3:Int.tdiv (wN w a) 3=wN w a/3:=Int.tdiv_eq_ediv_of_nonneg hN.1
 have d8:Int.tdiv (wN w a) 8=wN w a/8:=Int.tdiv_eq_ediv_of_nonneg hN.1
 have w64:IntKind.wrap .i64 (wN w a)=wN w a:=by rw[IntKind.wrap_i64]; omega
 have z0:=bk_size (wN w a)
 have z3:=bk_size (wN w a/3)
 have z8:=bk_size (wN w a/8)
 have zt:=tB_size (wN w a) v.s
 have zn:=sOf_size v.n hn
 change Ok _ _ _ (vS (bk _))at c0 c3 c8
 rw[wA_eq]
 refine Ok.of_pwp (by kernel_rfl) Tryz.func10 rfl (by kernel_rfl) (by kernel_rfl) ?_
 have hNe:(decide ((a:Int)<w.length)=true/\w.getD a 0=wN w a)∨(decide ((a:Int)<w.length)=false/\(a:Int)%256=wN w a):=by
  unfold wN
  by_cases h:(a:Int)<w.length
  ·exact .inl ⟨decide_eq_true h,by rw[if_pos h,Int.toNat_natCast]⟩
  ·exact .inr ⟨decide_eq_false h,by rw[if_neg h]⟩
 have u3:IntKind.wrap .u8 (wN w a/3)=wN w a/3:=by rw[IntKind.wrap_u8]; omega
 have u8:IntKind.wrap .u8 (wN w a/8)=wN w a/8:=by rw[IntKind.wrap_u8]; omega
 have cases6:v.kind=0∨v.kind=1∨v.kind=2∨v.kind=3∨v.kind=4∨v.kind=5:=by omega
 generalize wN w a=N at *
 rcases hNe with⟨hlt,e⟩|⟨hlt,e⟩
 all_goals
  try (have hlt':=of_decide_eq_true hlt)
  simp -implicitDefEqProofs (disch:=omega) only[go_sem,simprocAttr,cellsV,ByteArray.size_append,hlt,wu,e]
  with_reducible refine CallOk.of c0 rfl ?_
  rcases cases6 with k|k|k|k|k|k
  ·unfold wCore
   rw[if_pos k]
   simp -implicitDefEqProofs (disch:=omega) only[go_sem,simprocAttr,cellsV,ByteArray.size_append,d3,d8,u3,u8,w64,k]
   with_reducible refine CallOk.of c3 rfl ?_
   simp -implicitDefEqProofs (disch:=omega) only[go_sem,simprocAttr,cellsV,ByteArray.size_append,d3,d8,u3,u8,w64]
   try omega
  ·unfold wCore
   rw[if_neg (by omega),if_pos k]
   cases hbb:v.b with
   |true=>
    simp -implicitDefEqProofs (disch:=omega) only[go_sem,simprocAttr,cellsV,ByteArray.size_append,d3,d8,u3,u8,w64,k,hbb]
    with_reducible refine CallOk.of c3 rfl ?_
    simp -implicitDefEqProofs (disch:=omega) only[go_sem,simprocAttr,cellsV,ByteArray.size_append,d3,d8,u3,u8,w64]
    try omega
   |false=>
    simp -implicitDefEqProofs (disch:=omega) only[go_sem,simprocAttr,cellsV,ByteArray.size_append,d3,d8,u3,u8,w64,k,hbb]
    with_reducible refine CallOk.of c3 rfl ?_
    simp -implicitDefEqProofs (disch:=omega) only[go_sem,simprocAttr,cellsV,ByteArray.size_append,d3,d8,u3,u8,w64]
    try omega
  ·unfold wCore
   rw[if_neg (by omega),if_neg (by omega),if_pos k]
   simp -implicitDefEqProofs (disch:=omega) only[go_sem,simprocAttr,cellsV,ByteArray.size_append,d3,d8,u3,u8,w64,k]
   with_reducible refine CallOk.of (of_rep v.n hfn) rfl ?_
   simp -implicitDefEqProofs (disch:=omega) only[go_sem,simprocAttr,cellsV,ByteArray.size_append,d3,d8,u3,u8,w64,k]
   with_reducible refine CallOk.of (rtext_ok v.n hfn) rfl ?_
   simp -implicitDefEqProofs (disch:=omega) only[go_sem,simprocAttr,cellsV,ByteArray.size_append,d3,d8,u3,u8,w64,k]
   with_reducible refine CallOk.of c3 rfl ?_
   simp -implicitDefEqProofs (disch:=omega) only[go_sem,simprocAttr,cellsV,ByteArray.size_append,d3,d8,u3,u8,w64]
   try omega
  ·unfold wCore
   rw[if_neg (by omega),if_neg (by omega),if_neg (by omega),if_pos k]
   simp -implicitDefEqProofs (disch:=omega) only[go_sem,simprocAttr,cellsV,ByteArray.size_append,d3,d8,u3,u8,w64,k]
   with_reducible refine CallOk.of ct rfl ?_
   simp -implicitDefEqProofs (disch:=omega) only[go_sem,simprocAttr,cellsV,ByteArray.size_append,d3,d8,u3,u8,w64,k]
   with_reducible refine CallOk.of c3 rfl ?_
   simp -implicitDefEqProofs (disch:=omega) only[go_sem,simprocAttr,cellsV,ByteArray.size_append,d3,d8,u3,u8,w64]
   try omega
  ·have hmap:(v.items.map (wA w)).length=v.items.length:=List.length_map ..
   have hlen:=szVs_len v.items
   unfold wCore
   rw[if_neg (by omega),if_neg (by omega),if_neg (by omega),if_neg (by omega),if_pos k,hmap]
   generalize hR:vS _=R
   simp -implicitDefEqProofs (disch:=omega) only[go_sem,simprocAttr,cellsV,ByteArray.size_append,d3,d8,u3,u8,w64,k]
   refine p_loop (ι:={ i:Nat // i<=v.items.length }) (fun p=>⟨[(105,vI p.1),(104,vI v.items.length),(103,.sl (encV v.items)),(9,vS (arB (v.items.map (wA w)) a p.1)),(8,vS (bk N)),(7,vC N),(1,.sl (encC w)),(2,vI a)],[],[],0,0⟩) (fun p=>v.items.length-p.1) ⟨0,Nat.zero_le _⟩ ?_ ?_
   ·simp only[arB]
    constructor<;>simp only[go_sem,simprocAttr,decide_eq_true_eq,Int.natCast_zero,cellsV]<;>try ((repeat' apply And.intro)<;>first|rfl|omega|(congr 3; omega)|(congr 2; omega))
   rintro⟨i,hi2⟩
   simp only
   have hsz:=arB_size (a:=(a:Int)) hzs i hi2
   have htk:=szVs_take v.items i
   by_cases hlt2:i<v.items.length
   ·have hmem:=getD_mem (d:=(default:V)) hlt2
    have hbd:=item_bound hmem
    have cv:=ih _ hmem (a+i+1) (List.all_eq_true.1 hi _ hmem) (List.all_eq_true.1 hfi _ hmem) (hsm.2.2.1 _ hmem) (by omega)
    rw[show((a+i+1:Nat):Int)=(a:Int)+i+1 from rfl]at cv
    simp only[cellsV]at cv
    have hstp:arB (v.items.map (wA w)) a (i+1)=(if 0<i then arB (v.items.map (wA w)) a i++bOne 44 else arB (v.items.map (wA w)) a i)++wA w (v.items.getD i default) (a+i+1):=by rw[arB,fs_get hlt2]
    have hx:=hzs _ hmem ((a:Int)+i+1)
    have hxz:=szVs_mem hmem
    have wr1:IntKind.wrap .i64 ((a:Int)+(i:Int))=(a:Int)+i:=by rw[IntKind.wrap_i64]; omega
    have wr2:IntKind.wrap .i64 ((a:Int)+(i:Int)+1)=(a:Int)+i+1:=by rw[IntKind.wrap_i64]; omega
    generalize arB (v.items.map (wA w)) a i=x at *
    generalize hY:arB (v.items.map (wA w)) a (i+1)=Y at hstp
    generalize wA w (v.items.getD i default) ((a:Int)+i+1)=T at *
    by_cases h0:0<i
    ·rw[if_pos h0]at hstp
     simp -implicitDefEqProofs (disch:=omega) only[go_sem,simprocAttr,cellsV,ByteArray.size_append,d3,d8,u3,u8,w64,wr1,wr2,decide_eq_true (show(0:Int)<(i:Int) by omega)]
     with_reducible refine CallOk.of cv rfl ?_
     simp -implicitDefEqProofs (disch:=omega) only[go_sem,simprocAttr,cellsV,ByteArray.size_append,d3,d8,u3,u8,w64,wr1,wr2,decide_eq_true (show(0:Int)<(i:Int) by omega)]
     refine⟨⟨i+1,hlt2⟩,by simp only; omega,?_⟩
     simp only[hY,hstp]
     constructor<;>simp only[go_sem,simprocAttr,decide_eq_true_eq,Int.natCast_add,Int.natCast_one,cellsV]<;>try ((repeat' apply And.intro)<;>first|rfl|omega|(congr 3; omega)|(congr 2; omega))
    ·rw[if_neg h0]at hstp
     simp -implicitDefEqProofs (disch:=omega) only[go_sem,simprocAttr,cellsV,ByteArray.size_append,d3,d8,u3,u8,w64,wr1,wr2,decide_eq_false (show ¬(0:Int)<(i:Int) by omega)]
     with_reducible refine CallOk.of cv rfl ?_
     simp -implicitDefEqProofs (disch:=omega) only[go_sem,simprocAttr,cellsV,ByteArray.size_append,d3,d8,u3,u8,w64,wr1,wr2,decide_eq_false (show ¬(0:Int)<(i:Int) by omega)]
     refine⟨⟨i+1,hlt2⟩,by simp only; omega,?_⟩
     simp only[hY,hstp]
     constructor<;>simp only[go_sem,simprocAttr,decide_eq_true_eq,Int.natCast_add,Int.natCast_one,cellsV]<;>try ((repeat' apply And.intro)<;>first|rfl|omega|(congr 3; omega)|(congr 2; omega))
   ·obtain rfl:i=v.items.length:=by omega
    subst hR
    rw[List.take_length]at hsz htk
    generalize arB (v.items.map (wA w)) a v.items.length=x at *
    simp -implicitDefEqProofs (disch:=omega) only[go_sem,simprocAttr,cellsV,ByteArray.size_append,d3,d8,u3,u8,w64]
    with_reducible refine CallOk.of c3 rfl ?_
    simp -implicitDefEqProofs (disch:=omega) only[go_sem,simprocAttr,cellsV,ByteArray.size_append,d3,d8,u3,u8,w64]
    try omega
  ·have hmap:(v.items.map (wA w)).length=v.items.length:=List.length_map ..
   have hlen:=szVs_len v.items
   have hkl:v.keys.length=v.items.length:=by
    unfold keyedB at hkd
    simp only[Bool.and_eq_true,Bool.or_eq_true,decide_eq_true_eq]at hkd
    rcases hkd.2 with h|h
    ·omega
    ·exact h
   have hkt:∀x∈v.keys,isT x=true:=by
    unfold keyedB at hkd
    simp only[Bool.and_eq_true]at hkd
    exact List.all_eq_true.1 hkd.1.1
   unfold wCore
   rw[if_neg (by omega),if_neg (by omega),if_neg (by omega),if_neg (by omega),if_neg (by omega),hmap,rotL_map]
   obtain⟨M,hM⟩:∃M:Nat,N=M:=⟨N.toNat,by omega⟩
   have hobs:=fun i (h:i<=v.items.length)=>obB_size (w:=w) (N:=N) (a:=(a:Int)) (ks:=rotL (M%v.items.length) v.keys) (l:=rotL (M%v.items.length) v.items) (by rw[rotL_len,rotL_len,hkl]) (fun x hx=>hzs x (rotL_mem.1 hx)) i (by rw[rotL_len]; exact h)
   have hvs:=fun i=>szVs_take (rotL (M%v.items.length) v.items) i
   have hts:=fun i=>szT_takeM (rotL (M%v.items.length) v.keys) i
   rw[rotL_szVs]at hvs
   rw[rotL_szT]at hts
   rw[show N.toNat=M by omega]
   simp -implicitDefEqProofs (disch:=omega) only[go_sem,simprocAttr,cellsV,ByteArray.size_append,d3,d8,u3,u8,w64,k]
   refine p_loop (ι:={ i:Nat // i<=v.items.length }) (fun p=>⟨[(31,vI p.1),(30,vI v.items.length),(9,vS (obB N (rotL (M%v.items.length) v.keys) ((rotL (M%v.items.length) v.items).map (wA w)) a p.1)),(8,vS (bk N)),(7,vC N),(3,.ptr 0 0),(1,.sl (encC w)),(2,vI a)],[(0,.box 28 (cellsV v))],[],1,0⟩) (fun p=>v.items.length-p.1) ⟨0,Nat.zero_le _⟩ ?_ ?_
   ·simp only[obB]
    constructor<;>simp only[go_sem,simprocAttr,decide_eq_true_eq,Int.natCast_zero,cellsV,k]<;>try ((repeat' apply And.intro)<;>first|rfl|omega|(congr 3; omega)|(congr 2; omega))
   rintro⟨i,hi2⟩
   simp only
   have hsz:=hobs i hi2
   have htk:=hvs i
   have htt:=hts i
   by_cases hlt2:i<v.items.length
   ·have hj:(i+M)%v.items.length<v.items.length:=Nat.mod_lt _ (by omega)
    have rI:=rotL_get (l:=v.items) (n:=M) (default:V) hlt2
    have rK:=rotL_get (l:=v.keys) (n:=M) ByteArray.empty (show i<v.keys.length by omega)
    rw[hkl]at rK
    have hstp:obB N (rotL (M%v.items.length) v.keys) ((rotL (M%v.items.length) v.items).map (wA w)) a (i+1)=(if 0<i then obB N (rotL (M%v.items.length) v.keys) ((rotL (M%v.items.length) v.items).map (wA w)) a i++(bk N++bOne 44) else obB N (rotL (M%v.items.length) v.keys) ((rotL (M%v.items.length) v.items).map (wA w)) a i)++(bk (N/8)++tB N (v.keys.getD ((i+M)%v.items.length) ByteArray.empty)++bk N++bOne 58++wA w (v.items.getD ((i+M)%v.items.length) default) (a+i+1)):=by rw[obB,fs_get (by rw[rotL_len]; exact hlt2),rI,rK]
    have hmt:Int.tmod ((i:Int)+N) (v.items.length:Int)=(((i+M)%v.items.length:Nat):Int):=by
     rw[hM,Int.tmod_eq_emod_of_nonneg (by omega)]
     rfl
    generalize hJ:(i+M)%v.items.length=j at *
    have hmem:=getD_mem (d:=(default:V)) hj
    have hkm:=getD_mem (d:=ByteArray.empty) (show j<v.keys.length by omega)
    have hbd:=item_bound hmem
    have cv:=ih _ hmem (a+i+1) (List.all_eq_true.1 hi _ hmem) (List.all_eq_true.1 hfi _ hmem) (hsm.2.2.1 _ hmem) (by omega)
    rw[show((a+i+1:Nat):Int)=(a:Int)+i+1 from rfl]at cv
    simp only[cellsV]at cv
    have ck:=ltxt_ok (v.keys.getD j ByteArray.empty) N (by have:=hfw.2 _ hkm; omega) (hkt _ hkm) (by omega)
    have zk:=tB_size N (v.keys.getD j ByteArray.empty)
    have zk2:=hfw.2 _ hkm
    have hx:=hzs _ hmem ((a:Int)+i+1)
    have hxz:=szVs_mem hmem
    have wr0:IntKind.wrap .i64 ((i:Int)+N)=(i:Int)+N:=by rw[IntKind.wrap_i64]; omega
    have wr1:IntKind.wrap .i64 ((a:Int)+(i:Int))=(a:Int)+i:=by rw[IntKind.wrap_i64]; omega
    have wr2:IntKind.wrap .i64 ((a:Int)+(i:Int)+1)=(a:Int)+i+1:=by rw[IntKind.wrap_i64]; omega
    generalize obB N (rotL (M%v.items.length) v.keys) ((rotL (M%v.items.length) v.items).map (wA w)) a i=x at *
    generalize hY:obB N (rotL (M%v.items.length) v.keys) ((rotL (M%v.items.length) v.items).map (wA w)) a (i+1)=Y at hstp
    generalize wA w (v.items.getD j default) ((a:Int)+i+1)=T at *
    generalize tB N (v.keys.getD j ByteArray.empty)=tk at *
    have hj2:(j:Int)<(v.items.length:Int):=by omega
    have hj3:(j:Int)<(v.keys.length:Int):=by omega
    by_cases h0:0<i
    ·rw[if_pos h0]at hstp
     simp -implicitDefEqProofs (disch:=omega) only[go_sem,simprocAttr,cellsV,ByteArray.size_append,d3,d8,u3,u8,w64,wr0,wr1,wr2,hmt,encT_len, ↓ix_T,decide_eq_true (show(0:Int)<(i:Int) by omega)]
     with_reducible refine CallOk.of c8 rfl ?_
     simp -implicitDefEqProofs (disch:=omega) only[go_sem,simprocAttr,cellsV,ByteArray.size_append,d3,d8,u3,u8,w64,wr0,wr1,wr2,hmt,encT_len, ↓ix_T,decide_eq_true (show(0:Int)<(i:Int) by omega)]
     with_reducible refine CallOk.of ck rfl ?_
     simp -implicitDefEqProofs (disch:=omega) only[go_sem,simprocAttr,cellsV,ByteArray.size_append,d3,d8,u3,u8,w64,wr0,wr1,wr2,hmt,encT_len, ↓ix_T,decide_eq_true (show(0:Int)<(i:Int) by omega)]
     with_reducible refine CallOk.of cv rfl ?_
     simp -implicitDefEqProofs (disch:=omega) only[go_sem,simprocAttr,cellsV,ByteArray.size_append,d3,d8,u3,u8,w64,wr0,wr1,wr2,hmt,encT_len, ↓ix_T,decide_eq_true (show(0:Int)<(i:Int) by omega)]
     refine⟨⟨i+1,hlt2⟩,by simp only; omega,?_⟩
     simp only[hY,hstp]
     constructor<;>simp only[go_sem,simprocAttr,decide_eq_true_eq,Int.natCast_add,Int.natCast_one,cellsV]<;>try ((repeat' apply And.intro)<;>first|rfl|omega|(congr 3; omega)|(congr 2; omega))
    ·rw[if_neg h0]at hstp
     simp -implicitDefEqProofs (disch:=omega) only[go_sem,simprocAttr,cellsV,ByteArray.size_append,d3,d8,u3,u8,w64,wr0,wr1,wr2,hmt,encT_len, ↓ix_T,decide_eq_false (show ¬(0:Int)<(i:Int) by omega)]
     with_reducible refine CallOk.of c8 rfl ?_
     simp -implicitDefEqProofs (disch:=omega) only[go_sem,simprocAttr,cellsV,ByteArray.size_append,d3,d8,u3,u8,w64,wr0,wr1,wr2,hmt,encT_len, ↓ix_T,decide_eq_false (show ¬(0:Int)<(i:Int) by omega)]
     with_reducible refine CallOk.of ck rfl ?_
     simp -implicitDefEqProofs (disch:=omega) only[go_sem,simprocAttr,cellsV,ByteArray.size_append,d3,d8,u3,u8,w64,wr0,wr1,wr2,hmt,encT_len, ↓ix_T,decide_eq_false (show ¬(0:Int)<(i:Int) by omega)]
     with_reducible refine CallOk.of cv rfl ?_
     simp -implicitDefEqProofs (disch:=omega) only[go_sem,simprocAttr,cellsV,ByteArray.size_append,d3,d8,u3,u8,w64,wr0,wr1,wr2,hmt,encT_len, ↓ix_T,decide_eq_false (show ¬(0:Int)<(i:Int) by omega)]
     refine⟨⟨i+1,hlt2⟩,by simp only; omega,?_⟩
     simp only[hY,hstp]
     constructor<;>simp only[go_sem,simprocAttr,decide_eq_true_eq,Int.natCast_add,Int.natCast_one,cellsV]<;>try ((repeat' apply And.intro)<;>first|rfl|omega|(congr 3; omega)|(congr 2; omega))
   ·obtain rfl:i=v.items.length:=by omega
    generalize obB N (rotL (M%v.items.length) v.keys) ((rotL (M%v.items.length) v.items).map (wA w)) a v.items.length=x at *
    simp -implicitDefEqProofs (disch:=omega) only[go_sem,simprocAttr,cellsV,ByteArray.size_append,d3,d8,u3,u8,w64]
    with_reducible refine CallOk.of c3 rfl ?_
    simp -implicitDefEqProofs (disch:=omega) only[go_sem,simprocAttr,cellsV,ByteArray.size_append,d3,d8,u3,u8,w64]
    try omega
end Go.Proofs.YtcgmpcbkndpmbaaGreatDoor

end
section
open Go Go.Proofs Go.Pw Go.RowKit
namespace Go.Proofs.YtcgmpcbkndpmbaaGreatDoor
set_option maxRecDepth 4000
set_option linter.unusedVariables false
set_option linter.unusedSimpArgs false
theorem parseA_of {s:ByteArray}{d:Nat}(hd:d<=64)(hs:s.size<=16384):parseA s d=(if(rV s d 0).code≠0 then .bad (rV s d 0).code (rV s d 0).place else
  if nE s (rV s d 0).at_≠0 then .bad (nE s (rV s d 0).at_) (nP s (rV s d 0).at_) else
  if(nT s (rV s d 0).at_).kind≠0 then .bad 1 (nT s (rV s d 0).at_).at_ else .good (rV s d 0).v 0):=by
 unfold parseA
 rw[if_neg (by omega),if_neg (by omega),Int.toNat_natCast]
end Go.Proofs.YtcgmpcbkndpmbaaGreatDoor

end
section
open Go Go.Proofs Go.Pw Go.RowKit
namespace Go.Proofs.YtcgmpcbkndpmbaaGreatDoor
set_option maxRecDepth 4000
set_option linter.unusedVariables false
set_option linter.unusedSimpArgs false
abbrev stL:List UInt8:=[48,49,50,51,52,53,54,55,56,57,46,101,69]
def opn (s:ByteArray)(p:Nat):Prop:=s.data.toList.getD p 0=91∨s.data.toList.getD p 0=123
def RdV (v:V)(t:List UInt8):Prop:=∀(s:ByteArray) (i:Nat) (l:List UInt8) (k:Nat),Sfx s i (t++l)->stp stL l ->
 (dV v<=k->rV s k i = .good v (i+t.length))/\(k<dV v->∃p,rV s k i = .bad 6 p/\i<=p/\p<i+t.length/\opn s p)
theorem stp_bl {w bl l:List UInt8}{c:UInt8}(hb:∀x∈bl,w.contains x=false)(hc:w.contains c=false):stp w (bl++c::l):=by
 cases bl with
 |nil=>exact hc
 |cons x r=>exact hb x (List.mem_cons_self)
theorem bl_st {bl:List UInt8}(h:Bl bl):∀x∈bl,stL.contains x=false:=fun x hx=>by
 have:=h x hx
 have f:∀c:Fin 256,blL.contains c.1.toUInt8=true->stL.contains c.1.toUInt8=false:=by decide +kernel
 have h2:=f ⟨x.toNat,UInt8.toNat_lt _⟩
 rw[u8_fin]at h2
 exact h2 this
theorem stp_blanks {bl l:List UInt8}{c:UInt8}(h:Bl bl)(hc:stL.contains c=false):stp stL (bl++c::l):=stp_bl (bl_st h) hc
theorem rdv_leaf {v:V}{t bl a:List UInt8}(hd:dV v=0)(ht:t=bl++a)(h:∀(s:ByteArray)(i:Nat)(l:List UInt8),Sfx s i (bl++(a++l))->stp stL l->∃tk,Tok1 s i tk (i+bl.length+a.length)/\rLeaf tk=some v):RdV v t:=fun s i l k hs hl=>by
 subst ht
 rw[List.append_assoc]at hs
 obtain⟨tk,h1,h2⟩:=h s i l hs hl
 refine⟨fun _=>?_,fun h=>by omega⟩
 rw[rV_leaf h1 h2,List.length_append,Nat.add_assoc]
theorem rdv_word {v:V}{bl a:List UInt8}{k:Int}(hb:Bl bl)(hw:(a,k)=([116,114,117,101],4)∨(a,k)=([102,97,108,115,101],5)∨(a,k)=([110,117,108,108],6))(hv:∀x y z,rLeaf ⟨k,x,y,z,z+a.length⟩=some v)(hd:dV v=0):RdV v (bl++a):=
 rdv_leaf hd rfl (fun s i l hs hl=>⟨_,nx_word hs hb hw,hv _ _ _⟩)
theorem rdv_null {bl:List UInt8}(hb:Bl bl):RdV vZero (bl++[110,117,108,108]):=rdv_word (k:=6) hb (.inr (.inr rfl)) (fun _ _ _=>rfl) rfl
theorem rdv_true {bl:List UInt8}(hb:Bl bl):RdV (.mk 1 true 0 ByteArray.empty [] []) (bl++[116,114,117,101]):=rdv_word (k:=4) hb (.inl rfl) (fun _ _ _=>rfl) rfl
theorem rdv_false {bl:List UInt8}(hb:Bl bl):RdV (.mk 1 false 0 ByteArray.empty [] []) (bl++[102,97,108,115,101]):=rdv_word (k:=5) hb (.inr (.inl rfl)) (fun _ _ _=>rfl) rfl
theorem num_first {t:ByteArray}(h:formP t):∃c r,t.data.toList=c::r/\nuL.contains c=true:=by
 obtain⟨h1,_,h3⟩:=h
 have hl:=size_list t
 cases e:t.data.toList with
 |nil=>rw[e]at hl; simp at hl; omega
 |cons c r=>
  refine⟨c,r,rfl,?_⟩
  have hb:bt t (0:Nat)=c.toNat:=by
   unfold Go.Pw.bt
   rw[Int.toNat_natCast,e]
   rfl
  have f:∀c:Fin 256,((c.1:Int)=45∨(48<=(c.1:Int)/\(c.1:Int)<=57))->nuL.contains c.1.toUInt8=true:=by decide +kernel
  have h2:=f ⟨c.toNat,UInt8.toNat_lt _⟩
  rw[u8_fin]at h2
  apply h2
  unfold fromF at h1 h3
  by_cases c1:0<t.size/\bt t 0=45
  ·exact .inl (by rw[<-hb]; exact c1.2)
  ·rw[if_neg c1]at h3
   have:=h3 0 (by omega) (Nat.le_refl _)
   rw[hb]at this
   exact .inr this
theorem rdv_num {n:Int}{bl:List UInt8}(hb:Bl bl)(hn:fits n):RdV (.mk 2 false n ByteArray.empty [] []) (bl++(sOf n).data.toList):=
 rdv_leaf rfl rfl (fun s i l hs hl=>by
  obtain⟨c,r,e,hc⟩:=num_first (sOf_form n)
  have h1:=numF_at (t:=sOf n) hs.app (sOf_form n) (by rw[sOf_z]; exact hn) hl
  rw[sOf_z]at h1
  have hs2:Sfx s i (bl++c::(r++l)):=by rw[e]at hs; exact hs
  have h2:=nx_num hs2 hb hc h1
  rw[<-size_list]at h2
  exact⟨_,h2,rfl⟩)
theorem rdv_text {L:List (Int×List UInt8)}{bl:List UInt8}(hb:Bl bl)(hp:∀x∈L,Piece x.1 x.2):RdV (.mk 3 false 0 (strOfNums (textN (L.map (·.1)))) [] []) (bl++quL L):=
 rdv_leaf rfl rfl (fun s i l hs hl=>⟨_,tok_text hp hs hb,rfl⟩)
theorem RdV.first {v:V}{t:List UInt8}(h:RdV v t){s:ByteArray}{i:Nat}{l:List UInt8}(hs:Sfx s i (t++l))(hl:stp stL l):∃tk,Tok1 s i tk (nQ s i)/\tk.sign 93=false/\tk.sign 125=false:=by
 have h1:=(h s i l (dV v) hs hl).1 (Nat.le_refl _)
 have h0:nE s i=0:=by
  by_cases hc:nE s i=0
  ·exact hc
  ·rw[rV_err hc]at h1
   have:=congrArg An.code h1
   exact absurd this hc
 have hp:nP s i=0:=by
  have:∀e b (t:Tk) q,(nextE i b e t q).1=0->(nextE i b e t q).2.1=0:=fun e b t q h=>by
   unfold nextE at h ⊢
   split
   ·rfl
   ·rename_i hh; rw[if_neg hh]at h; exact absurd h hh
  show(nextF s i).2.1=0
  have h0':(nextF s i).1=0:=h0
  unfold nextF at h0' ⊢
  repeat' split
  all_goals simp_all
  all_goals exact this _ _ _ _ h0'
 refine⟨nT s i,?_,?_⟩
 ·unfold Tok1
  have e:nextF s i=(nE s i,nP s i,nT s i,nQ s i):=rfl
  rw[e,h0,hp]
 ·have key:∀c:UInt8,(c=93∨c=125)->(nT s i).sign c=false:=fun c hc=>by
   cases hx:(nT s i).sign c with
   |false=>rfl
   |true=>
    have hk:=sign_kind hx
    have ht:=sign_text hx
    have e:rV s (dV v) i = .bad 1 (nT s i).at_:=by
     have h9:(nT s i).sign 91=false:=by unfold Tk.sign; rw[ht]; rcases hc with rfl|rfl<;>simp
     have h1:(nT s i).sign 123=false:=by unfold Tk.sign; rw[ht]; rcases hc with rfl|rfl<;>simp
     have hn:rLeaf (nT s i)=none:=by unfold rLeaf; rw[hk]; simp
     generalize dV v=d
     cases d<;>(rw[rV]; unfold rVh; rw[if_neg (by rw[h0]; decide),hn]; simp only; rw[if_pos ⟨h9,h1⟩])
    rw[e]at h1
    have:=congrArg An.code h1
    exact absurd this (show ¬(1:Int)=0 by decide)
  exact⟨key 93 (.inl rfl),key 125 (.inr rfl)⟩
abbrev It:=V×List UInt8×List UInt8
def itL:List It->List UInt8
 | []=>[]
 | [x]=>x.2.1++x.2.2
 |x::y::r=>x.2.1++(x.2.2++44::itL (y::r))
def ItOk (x:It):Prop:=RdV x.1 x.2.1/\Bl x.2.2
theorem items_at {s:ByteArray}{g l:List UInt8}(hg:Bl g)(k:Nat):∀(L:List It)(i f:Nat)(acc:List V),L≠[]->(∀x∈L,ItOk x)->Sfx s i (itL L++(g++93::l))->L.length<=f ->
  (dVs (L.map (·.1))<=k->rItems s (rV s k) f i acc = .good (.mk 4 false 0 ByteArray.empty (acc++L.map (·.1)) []) (i+(itL L).length+g.length+1)) /\
  (k<dVs (L.map (·.1))->∃p,rItems s (rV s k) f i acc = .bad 6 p/\i<=p/\p<i+(itL L).length/\opn s p)
 | [],i,f,acc,h0,hx,hs,hf=>absurd rfl h0
 | [x],i,f,acc,h0,hx,hs,hf=>by
  obtain⟨hr,hb⟩:=hx x (List.mem_cons_self)
  obtain⟨f,rfl⟩:∃j,f=j+1:=⟨f-1,by simp at hf; omega⟩
  have hs1:Sfx s i (x.2.1++((x.2.2++g)++93::l)):=by
   rw[itL]at hs
   simp only[List.append_assoc]at hs ⊢
   exact hs
  have r:=hr s i _ k hs1 (stp_blanks (hb.app hg) (by decide))
  have t:=tok_mark hs1.app (hb.app hg) (c:=93) (by decide)
  simp only[List.map_cons,List.map_nil,dVs_cons,dVs_nil,Nat.max_zero,itL,List.length_append]at *
  refine⟨fun h=>?_,fun h=>?_⟩
  ·rw[rItems_last (r.1 h) t]
   congr 1
   omega
  ·obtain⟨p,p1,p2,p3,p4⟩:=r.2 h
   exact⟨p,rItems_bad p1 (by decide),p2,by omega,p4⟩
 |x::y::r,i,f,acc,h0,hx,hs,hf=>by
  obtain⟨hr,hb⟩:=hx x (List.mem_cons_self)
  obtain⟨f,rfl⟩:∃j,f=j+1:=⟨f-1,by simp at hf; omega⟩
  have hs1:Sfx s i (x.2.1++(x.2.2++44::(itL (y::r)++(g++93::l)))):=by
   rw[itL]at hs
   simp only[List.append_assoc,List.cons_append]at hs ⊢
   exact hs
  have rr:=hr s i _ k hs1 (stp_blanks hb (by decide))
  have t:=tok_mark hs1.app hb (c:=44) (by decide)
  have hs2:Sfx s (i+x.2.1.length+x.2.2.length+1) (itL (y::r)++(g++93::l)):=hs1.app.app.next
  have ih:=items_at hg k (y::r) (i+x.2.1.length+x.2.2.length+1) f (acc++[x.1]) (by simp) (fun z hz=>hx z (List.mem_cons_of_mem _ hz)) hs2 (by simp at hf ⊢; omega)
  rw[show itL (x::y::r)=x.2.1++(x.2.2++44::itL (y::r)) from rfl]
  generalize hyr:y::r=yr at *
  simp only[List.map_cons,dVs_cons,List.length_append,List.length_cons]at *
  refine⟨fun h=>?_,fun h=>?_⟩
  ·rw[rItems_more (rr.1 (by omega)) t,ih.1 (by omega)]
   simp only[List.append_assoc,List.cons_append,List.nil_append]
   congr 1
   omega
  ·by_cases h1:k<dV x.1
   ·obtain⟨p,p1,p2,p3,p4⟩:=rr.2 h1
    exact⟨p,rItems_bad p1 (by decide),p2,by omega,p4⟩
   ·obtain⟨p,p1,p2,p3,p4⟩:=ih.2 (by omega)
    exact⟨p,by rw[rItems_more (rr.1 (by omega)) t]; exact p1,by omega,by omega,p4⟩
theorem itL_len:∀L:List It,L.length<=(itL L).length+1
 | []=>Nat.zero_le _
 | [x]=>by simp
 |x::y::r=>by
  have:=itL_len (y::r)
  rw[show itL (x::y::r)=x.2.1++(x.2.2++44::itL (y::r)) from rfl]
  simp only[List.length_append,List.length_cons]at this ⊢
  omega
theorem rdv_arr {L:List It}{bl g:List UInt8}(hb:Bl bl)(hg:Bl g)(hx:∀x∈L,ItOk x):RdV (.mk 4 false 0 ByteArray.empty (L.map (·.1)) []) (bl++91::(itL L++(g++[93]))):=fun s i l k hs hl=>by
 have hs1:Sfx s i (bl++91::(itL L++(g++93::l))):=by
  simp only[List.append_assoc,List.cons_append,List.nil_append]at hs ⊢
  exact hs
 have t:=tok_mark hs1 hb (c:=91) (by decide)
 have hs2:=hs1.app.next
 have hop:opn s (i+bl.length):= .inl hs1.app.get
 have hd:dV (.mk 4 false 0 ByteArray.empty (L.map (·.1)) [])=dVs (L.map (·.1))+1:=by rw[dV_eq]; rfl
 rw[hd]
 simp only[List.length_append,List.length_cons,List.length_nil]at *
 cases k with
 |zero=>exact⟨fun h=>by omega,fun _=>⟨_,rV_deep t (.inl rfl),by omega,by omega,hop⟩⟩
 |succ k=>
  rw[rV_arr t]
  cases L with
  |nil=>
   have hs3:Sfx s (i+bl.length+1) (g++93::l):=hs2
   refine⟨fun _=>?_,fun h=>by simp[dVs_nil]at h⟩
   rw[rArr_nil (tok_mark hs3 hg (by decide))]
   simp only[itL,List.length_nil]
   congr 1
   omega
  |cons x r=>
   have hne:(x::r:List It)≠[]:=by simp
   have hz:=hs2.len
   rw[List.length_append,List.length_append,List.length_cons]at hz
   have hk:=itL_len (x::r)
   have ha:=items_at hg k (x::r) (i+bl.length+1) (s.size+1) [] hne hx hs2 (by omega)
   obtain⟨l2,hl2,hst⟩:∃l2,itL (x::r)++(g++93::l)=x.2.1++l2/\stp stL l2:=by
    have hbx:=(hx x (List.mem_cons_self)).2
    cases r with
    |nil=>exact⟨(x.2.2++g)++93::l,by simp[itL],stp_blanks (hbx.app hg) (by decide)⟩
    |cons y r=>exact⟨x.2.2++44::(itL (y::r)++(g++93::l)),by simp[itL],stp_blanks hbx (by decide)⟩
   rw[hl2]at hs2
   obtain⟨tk,t1,t2,t3⟩:=(hx x (List.mem_cons_self)).1.first hs2 hst
   rw[rArr_some t1 t2]
   refine⟨fun h=>?_,fun h=>?_⟩
   ·rw[ha.1 (by omega),List.nil_append]
    congr 1
    omega
   ·obtain⟨p,p1,p2,p3,p4⟩:=ha.2 (by omega)
    exact⟨p,p1,by omega,by omega,p4⟩
end Go.Proofs.YtcgmpcbkndpmbaaGreatDoor

end
section
open Go Go.Proofs Go.Pw Go.RowKit
namespace Go.Proofs.YtcgmpcbkndpmbaaGreatDoor
set_option maxRecDepth 4000
set_option linter.unusedVariables false
set_option linter.unusedSimpArgs false
structure Mem where
 kl:List UInt8
 kp:List (Int×List UInt8)
 kg:List UInt8
 v:V
 t:List UInt8
 tr:List UInt8
def Mem.key (m:Mem):ByteArray:=strOfNums (textN (m.kp.map (·.1)))
def Mem.txt (m:Mem):List UInt8:=m.kl++(quL m.kp++(m.kg++58::(m.t++m.tr)))
structure MemOk (m:Mem):Prop where
 kl:Bl m.kl
 kp:∀x∈m.kp,Piece x.1 x.2
 kg:Bl m.kg
 r:RdV m.v m.t
 tr:Bl m.tr
def meL:List Mem->List UInt8
 | []=>[]
 | [m]=>m.txt
 |m::n::r=>m.txt++44::meL (n::r)
theorem meL_len:∀L:List Mem,L.length<=(meL L).length+1
 | []=>Nat.zero_le _
 | [x]=>by simp
 |x::y::r=>by
  have:=meL_len (y::r)
  rw[show meL (x::y::r)=x.txt++44::meL (y::r) from rfl]
  simp only[List.length_append,List.length_cons]at this ⊢
  omega
theorem mem_head {s:ByteArray}{i:Nat}{m:Mem}{l:List UInt8}(ok:MemOk m)(hs:Sfx s i (m.txt++l)):∃q1 a1 a2 q2,Tok1 s i ⟨2,m.key,0,a1,q1⟩ q1/\Tok1 s q1 (mkT 58 a2) q2/\Sfx s q2 (m.t++(m.tr++l))/\q2+m.t.length+m.tr.length=i+m.txt.length/\i<=q2:=by
 have hs1:Sfx s i (m.kl++(quL m.kp++(m.kg++58::(m.t++(m.tr++l))))):=by
  unfold Mem.txt at hs
  simp only[List.append_assoc,List.cons_append]at hs ⊢
  exact hs
 have t1:=tok_text ok.kp hs1 ok.kl
 have h2:=hs1.app.app
 have t2:=tok_mark h2 ok.kg (c:=58) (by decide)
 refine⟨_,_,_,_,t1,t2,h2.app.next,?_,by omega⟩
 unfold Mem.txt
 simp only[List.length_append,List.length_cons]
 omega
theorem members_at {s:ByteArray}{g l:List UInt8}(hg:Bl g)(k:Nat):∀(L:List Mem)(i f:Nat)(ks:List ByteArray)(acc:List V),L≠[]->(∀x∈L,MemOk x)->(ks++L.map Mem.key).Nodup->Sfx s i (meL L++(g++125::l))->L.length<=f ->
  (dVs (L.map Mem.v)<=k->rMems s (rV s k) f i ks acc = .good (objV (ks++L.map Mem.key) (acc++L.map Mem.v)) (i+(meL L).length+g.length+1)) /\
  (k<dVs (L.map Mem.v)->∃p,rMems s (rV s k) f i ks acc = .bad 6 p/\i<=p/\p<i+(meL L).length/\opn s p)
 | [],i,f,ks,acc,h0,hx,hn,hs,hf=>absurd rfl h0
 | [x],i,f,ks,acc,h0,hx,hn,hs,hf=>by
  have ok:=hx x (List.mem_cons_self)
  obtain⟨f,rfl⟩:∃j,f=j+1:=⟨f-1,by simp at hf; omega⟩
  have hk:x.key ∉ ks:=fun h=>by
   rw[List.nodup_append]at hn
   exact hn.2.2 _ h _ (by simp) rfl
  have hs1:Sfx s i (x.txt++(g++125::l)):=hs
  obtain⟨q1,a1,a2,q2,t1,t2,h3,e1,e2⟩:=mem_head ok hs1
  have h4:Sfx s q2 (x.t++((x.tr++g)++125::l)):=by rw[List.append_assoc]; exact h3
  have r:=ok.r s q2 _ k h4 (stp_blanks (ok.tr.app hg) (by decide))
  have t:=tok_mark h4.app (ok.tr.app hg) (c:=125) (by decide)
  rw[show meL [x]=x.txt from rfl]
  simp only[List.map_cons,List.map_nil,dVs_cons,dVs_nil,Nat.max_zero,List.length_append]at *
  refine⟨fun h=>?_,fun h=>?_⟩
  ·rw[rMems_last t1 hk t2 (r.1 h) t]
   congr 1
   omega
  ·obtain⟨p,p1,p2,p3,p4⟩:=r.2 h
   exact⟨p,rMems_bad t1 hk t2 p1 (by decide),by omega,by omega,p4⟩
 |x::y::r,i,f,ks,acc,h0,hx,hn,hs,hf=>by
  have ok:=hx x (List.mem_cons_self)
  obtain⟨f,rfl⟩:∃j,f=j+1:=⟨f-1,by simp at hf; omega⟩
  have hk:x.key ∉ ks:=fun h=>by
   rw[List.nodup_append]at hn
   exact hn.2.2 _ h _ (by simp) rfl
  have hs1:Sfx s i (x.txt++(44::(meL (y::r)++(g++125::l)))):=by
   rw[show meL (x::y::r)=x.txt++44::meL (y::r) from rfl]at hs
   simp only[List.append_assoc,List.cons_append]at hs ⊢
   exact hs
  obtain⟨q1,a1,a2,q2,t1,t2,h3,e1,e2⟩:=mem_head ok hs1
  have rr:=ok.r s q2 _ k h3 (stp_blanks ok.tr (by decide))
  have t:=tok_mark h3.app ok.tr (c:=44) (by decide)
  have hs2:Sfx s (q2+x.t.length+x.tr.length+1) (meL (y::r)++(g++125::l)):=h3.app.app.next
  have hn2:(ks++[x.key]++(y::r).map Mem.key).Nodup:=by
   simp only[List.append_assoc,List.cons_append,List.nil_append,List.map_cons]at hn ⊢
   exact hn
  have ih:=members_at hg k (y::r) (q2+x.t.length+x.tr.length+1) f (ks++[x.key]) (acc++[x.v]) (by simp) (fun z hz=>hx z (List.mem_cons_of_mem _ hz)) hn2 hs2 (by simp at hf ⊢; omega)
  rw[show meL (x::y::r)=x.txt++44::meL (y::r) from rfl]
  generalize hyr:y::r=yr at *
  simp only[List.map_cons,dVs_cons,List.length_append,List.length_cons]at *
  refine⟨fun h=>?_,fun h=>?_⟩
  ·rw[rMems_more t1 hk t2 (rr.1 (by omega)) t,ih.1 (by omega)]
   simp only[List.append_assoc,List.cons_append,List.nil_append]
   congr 1
   omega
  ·by_cases h1:k<dV x.v
   ·obtain⟨p,p1,p2,p3,p4⟩:=rr.2 h1
    exact⟨p,rMems_bad t1 hk t2 p1 (by decide),by omega,by omega,p4⟩
   ·obtain⟨p,p1,p2,p3,p4⟩:=ih.2 (by omega)
    exact⟨p,by rw[rMems_more t1 hk t2 (rr.1 (by omega)) t]; exact p1,by omega,by omega,p4⟩
theorem rdv_obj {L:List Mem}{bl g:List UInt8}{v:V}(hb:Bl bl)(hg:Bl g)(hx:∀x∈L,MemOk x)(hn:(L.map Mem.key).Nodup)(hv:objV (L.map Mem.key) (L.map Mem.v)=v)(hd:dV v=dVs (L.map Mem.v)+1):RdV v (bl++123::(meL L++(g++[125]))):=fun s i l k hs hl=>by
 have hs1:Sfx s i (bl++123::(meL L++(g++125::l))):=by
  simp only[List.append_assoc,List.cons_append,List.nil_append]at hs ⊢
  exact hs
 have t:=tok_mark hs1 hb (c:=123) (by decide)
 have hs2:=hs1.app.next
 have hop:opn s (i+bl.length):= .inr hs1.app.get
 rw[hd]
 simp only[List.length_append,List.length_cons,List.length_nil]at *
 cases k with
 |zero=>exact⟨fun h=>by omega,fun _=>⟨_,rV_deep t (.inr rfl),by omega,by omega,hop⟩⟩
 |succ k=>
  rw[rV_obj t]
  cases L with
  |nil=>
   have hs3:Sfx s (i+bl.length+1) (g++125::l):=hs2
   refine⟨fun _=>?_,fun h=>by simp[dVs_nil]at h⟩
   rw[rObj_nil (tok_mark hs3 hg (by decide)),<-hv]
   simp only[meL,List.length_nil,List.map_nil,OrdI.nil.val]
   congr 1
   omega
  |cons x r=>
   have hz:=hs2.len
   rw[List.length_append,List.length_append,List.length_cons]at hz
   have hk:=meL_len (x::r)
   have ha:=members_at hg k (x::r) (i+bl.length+1) (s.size+1) [] [] (by simp) hx (by simpa using hn) hs2 (by omega)
   obtain⟨l2,hl2⟩:∃l2,meL (x::r)++(g++125::l)=x.txt++l2:=by
    cases r with
    |nil=>exact⟨g++125::l,rfl⟩
    |cons y r=>exact⟨44::(meL (y::r)++(g++125::l)),by simp[meL]⟩
   rw[hl2]at hs2
   obtain⟨q1,a1,a2,q2,t1,t2,h3,e1,e2⟩:=mem_head (hx x (List.mem_cons_self)) hs2
   rw[rObj_some t1 (by unfold Tk.sign; rfl)]
   refine⟨fun h=>?_,fun h=>?_⟩
   ·rw[ha.1 (by omega),List.nil_append,List.nil_append,hv]
    congr 1
    omega
   ·obtain⟨p,p1,p2,p3,p4⟩:=ha.2 (by omega)
    exact⟨p,p1,by omega,by omega,p4⟩
end Go.Proofs.YtcgmpcbkndpmbaaGreatDoor

end
section
open Go Go.Proofs Go.Pw Go.RowKit
namespace Go.Proofs.YtcgmpcbkndpmbaaGreatDoor
set_option maxRecDepth 4000
set_option linter.unusedVariables false
set_option linter.unusedSimpArgs false
theorem SortT.nodup {l:List ByteArray}(h:SortT l):l.Nodup:=List.Pairwise.imp (fun {a b} h e=>by subst e; rw[ltT_irr]at h; cases h) h
theorem sort_uniq:∀(a b:List ByteArray),SortT a->SortT b->(∀x,x∈a↔x∈b)->a=b
 | [],[],_,_,_=>rfl
 | [],y::q,_,_,h=>by have:=(h y).2 (List.mem_cons_self); cases this
 |x::r,[],_,_,h=>by have:=(h x).1 (List.mem_cons_self); cases this
 |x::r,y::q,ha,hb,h=>by
  have ha':=List.pairwise_cons.1 ha
  have hb':=List.pairwise_cons.1 hb
  have e:x=y:=by
   rcases List.mem_cons.1 ((h x).1 (List.mem_cons_self))with e|e
   ·exact e
   ·rcases List.mem_cons.1 ((h y).2 (List.mem_cons_self))with e2|e2
    ·exact e2.symm
    ·have h1:=hb'.1 x e
     have h2:=ha'.1 y e2
     rw[ltT_asymm h1]at h2
     cases h2
  subst e
  rw[sort_uniq r q ha'.2 hb'.2 (fun z=>?_)]
  constructor
  ·intro hz
   rcases List.mem_cons.1 ((h z).1 (List.mem_cons_of_mem _ hz))with e|e
   ·subst e; have:=ha'.1 z hz; rw[ltT_irr]at this; cases this
   ·exact e
  ·intro hz
   rcases List.mem_cons.1 ((h z).2 (List.mem_cons_of_mem _ hz))with e|e
   ·subst e; have:=hb'.1 z hz; rw[ltT_irr]at this; cases this
   ·exact e
theorem zip_insAt {K:List ByteArray}{I:List V}(h:K.length=I.length)(i:Nat)(k:ByteArray)(v:V):(insAt K i k).zip (insAt I i v)=insAt (K.zip I) i (k,v):=by
 unfold insAt
 rw[List.zip_append (by simp[h]),List.zip_append (by simp[h])]
 simp only[List.zip,List.take_zipWith,List.drop_zipWith]
 rfl
theorem ord_pairs (P:List (ByteArray×V))(hn:(P.map (·.1)).Nodup):∀i,i<=P.length->∃K I,OrdI ((P.take i).map (·.1)) ((P.take i).map (·.2)) K I/\∀p,p∈K.zip I↔p∈P.take i
 |0,h=>⟨[],[],OrdI.nil,fun p=>by simp⟩
 |i+1,h=>by
  obtain⟨K,I,h1,h2⟩:=ord_pairs P hn i (by omega)
  have e:P.take (i+1)=P.take i++[P[i]]:=by rw[List.take_add_one,List.getElem?_eq_getElem (by omega)]; rfl
  have hk:(P[i]).1 ∉ (P.take i).map (·.1):=fun hm=>by
   have hn2:((P.take (i+1)).map (·.1)).Nodup:=by
    rw[List.map_take]; exact hn.sublist (List.take_sublist _ _)
   rw[e,List.map_append,List.nodup_append]at hn2
   exact hn2.2.2 _ hm _ (by simp) rfl
  refine⟨_,_,by rw[e,List.map_append,List.map_append]; exact h1.step hk (P[i]).2,fun p=>?_⟩
  rw[zip_insAt h1.len,mem_insAt,h2,e,List.mem_append,List.mem_singleton]
theorem objV_rot {keys:List ByteArray}{items:List V}(n:Nat)(hs:SortT keys)(hl:keys.length=items.length):objV (rotL n keys) (rotL n items) = .mk 5 false 0 ByteArray.empty items keys:=by
 have hz:(rotL n keys).zip (rotL n items)=rotL n (keys.zip items):=by
  unfold rotL
  rw[List.zip_append (by simp[hl])]
  simp only[List.zip,List.take_zipWith,List.drop_zipWith]
 have m1:(rotL n (keys.zip items)).map (·.1)=rotL n keys:=by rw[<-hz,List.map_fst_zip (by rw[rotL_len,rotL_len]; omega)]
 have m2:(rotL n (keys.zip items)).map (·.2)=rotL n items:=by rw[<-hz,List.map_snd_zip (by rw[rotL_len,rotL_len]; omega)]
 have hnd:(rotL n keys).Nodup:=by
  have h1:=hs.nodup
  rw[<-List.take_append_drop n keys]at h1
  exact(List.perm_append_comm.nodup_iff).1 h1
 obtain⟨K,I,h1,h2⟩:=ord_pairs (rotL n (keys.zip items)) (by rw[m1]; exact hnd) _ (Nat.le_refl _)
 rw[List.take_length]at h1 h2
 rw[m1,m2]at h1
 have hK:K=keys:=sort_uniq K keys h1.sort hs (fun x=>by rw[h1.mem,rotL_mem])
 subst hK
 have hI:I=items:=by
  apply List.ext_getElem (by rw[<-h1.len,hl])
  intro j hj1 hj2
  have hk:j<K.length:=by rw[h1.len]; exact hj1
  have hm:(K[j],I[j])∈K.zip I:=by
   rw[List.mem_iff_getElem]
   exact⟨j,by rw[List.length_zip]; omega,by rw[List.getElem_zip]⟩
  rw[h2,rotL_mem,List.mem_iff_getElem]at hm
  obtain⟨j',hj',e⟩:=hm
  rw[List.getElem_zip]at e
  obtain⟨e1,e2⟩:=Prod.mk.inj e
  have hjj:j'=j:=by
   have hp:=List.pairwise_iff_getElem.1 hs.nodup
   rcases Nat.lt_trichotomy j' j with h|h|h
   ·exact absurd e1 (hp _ _ _ _ h)
   ·exact h
   ·exact absurd e1.symm (hp _ _ _ _ h)
  subst hjj
  exact e2.symm
 subst hI
 exact h1.val
theorem rotL_dVs (n:Nat)(l:List V):dVs (rotL n l)=dVs l:=by
 have h:=dVs_app (l.take n) (l.drop n)
 rw[List.take_append_drop]at h
 unfold rotL
 rw[dVs_app,h,Nat.max_comm]
abbrev dl (b:ByteArray):List UInt8:=b.data.toList
theorem dl_app (a b:ByteArray):dl (a++b)=dl a++dl b:=by simp[dl]
theorem dl_bk (n:Int):dl (bk n)=blkL n:=rfl
theorem dl_one (c:UInt8):dl (bOne c)=[c]:=rfl
theorem dl_tB (N:Int)(s:ByteArray):dl (tB N s)=quL (tpL N (scan s 0).1):=rfl
theorem pts_text {s:ByteArray}(h:isT s=true)(N:Int):strOfNums (textN ((tpL N (scan s 0).1).map (·.1)))=s/\∀x∈tpL N (scan s 0).1,Piece x.1 x.2:=by
 obtain⟨h1,h2⟩:=scan_bytes s 0 (Nat.zero_le _) (by unfold isT at h; simpa using h)
 refine⟨?_,tpL_ok _ _ h2⟩
 rw[tpL_pts,<-h1,List.drop_zero,strOf_toI]
theorem itL_snoc (x:It):∀L:List It,itL (L++[x])=(if L=[] then[] else itL L++[44])++(x.2.1++x.2.2)
 | []=>by simp[itL]
 | [y]=>by simp[itL]
 |y::z::r=>by
  have ih:=itL_snoc x (z::r)
  rw[List.cons_append]at ih
  rw[List.cons_append,List.cons_append,show itL (y::z::(r++[x]))=y.2.1++(y.2.2++44::itL (z::(r++[x]))) from rfl,ih,if_neg (by simp),if_neg (by simp),show itL (y::z::r)=y.2.1++(y.2.2++44::itL (z::r)) from rfl]
  simp
theorem meL_snoc (x:Mem):∀L:List Mem,meL (L++[x])=(if L=[] then[] else meL L++[44])++x.txt
 | []=>by simp[meL]
 | [y]=>by simp[meL]
 |y::z::r=>by
  have ih:=meL_snoc x (z::r)
  rw[List.cons_append]at ih
  rw[List.cons_append,List.cons_append,show meL (y::z::(r++[x]))=y.txt++44::meL (z::(r++[x])) from rfl,ih,if_neg (by simp),if_neg (by simp),show meL (y::z::r)=y.txt++44::meL (z::r) from rfl]
  simp
def WrOk (v:V)(b:ByteArray):Prop:=∃t tr,dl b=t++tr/\Bl tr/\RdV v t
theorem take_s {α:Type}{l:List α}{i:Nat}(d:α)(h:i<l.length):l.take (i+1)=l.take i++[l.getD i d]:=take_snocG h
theorem arB_it {w:List Int}{l:List V}{a:Int}(ih:∀x∈l,∀a,WrOk x (wA w x a)):∀i,i<=l.length->∃L:List It,L.length=i/\L.map (·.1)=l.take i/\(∀x∈L,ItOk x)/\itL L=dl (arB (l.map (wA w)) a i)
 |0,h=>⟨[],rfl,by simp,fun x hx=>(by cases hx),rfl⟩
 |i+1,h=>by
  obtain⟨L,h1,h2,h3,h4⟩:=arB_it (a:=a) ih i (by omega)
  obtain⟨t,tr,e1,e2,e3⟩:=ih _ (getD_mem (d:=(default:V)) (show i<l.length by omega)) (a+i+1)
  refine⟨L++[(l.getD i default,t,tr)],by simp[h1],by rw[List.map_append,h2,take_s default (by omega)]; rfl,fun x hx=>?_,?_⟩
  ·rcases List.mem_append.1 hx with hx|hx
   ·exact h3 x hx
   ·rw[List.mem_singleton]at hx; subst hx; exact⟨e3,e2⟩
  ·rw[itL_snoc,arB,fs_get (by omega),dl_app,e1]
   by_cases h0:0<i
   ·rw[if_neg (by intro e; rw[e]at h1; simp at h1; omega),if_pos h0,dl_app,dl_one,h4]
   ·have:L=[]:=List.eq_nil_of_length_eq_zero (by omega)
    subst this
    rw[if_pos rfl,if_neg h0,<-h4]
    rfl
theorem obB_me {w:List Int}{ks:List ByteArray}{l:List V}{N a:Int}(hkl:ks.length=l.length)(hkt:∀x∈ks,isT x=true)(ih:∀x∈l,∀a,WrOk x (wA w x a)):∀i,i<=l.length->∃L:List Mem,L.length=i/\L.map Mem.key=ks.take i/\L.map Mem.v=l.take i/\(∀x∈L,MemOk x)/\(0<i->meL L=dl (obB N ks (l.map (wA w)) a i)++blkL N)
 |0,h=>⟨[],rfl,by simp,by simp,fun x hx=>(by cases hx),fun h=>by omega⟩
 |i+1,h=>by
  obtain⟨L,h1,h2,h2',h3,h4⟩:=obB_me (N:=N) (a:=a) hkl hkt ih i (by omega)
  obtain⟨t,tr,e1,e2,e3⟩:=ih _ (getD_mem (d:=(default:V)) (show i<l.length by omega)) (a+i+1)
  obtain⟨p1,p2⟩:=pts_text (hkt _ (getD_mem (d:=ByteArray.empty) (show i<ks.length by omega))) N
  refine⟨L++[⟨blkL (N/8),tpL N (scan (ks.getD i ByteArray.empty) 0).1,blkL N,l.getD i default,t,tr++blkL N⟩],by simp[h1],?_,?_,fun x hx=>?_,fun _=>?_⟩
  ·rw[List.map_append,h2,take_s ByteArray.empty (by omega),List.map_cons,List.map_nil]
   unfold Mem.key
   rw[p1]
  ·rw[List.map_append,h2',take_s default (by omega)]; rfl
  ·rcases List.mem_append.1 hx with hx|hx
   ·exact h3 x hx
   ·rw[List.mem_singleton]at hx; subst hx; exact⟨blkL_bl _,p2,blkL_bl _,e3,e2.app (blkL_bl _)⟩
  ·rw[meL_snoc,obB,fs_get (by omega),dl_app]
   have hm:Mem.txt ⟨blkL (N/8),tpL N (scan (ks.getD i ByteArray.empty) 0).1,blkL N,l.getD i default,t,tr++blkL N⟩=dl (bk (N/8)++tB N (ks.getD i ByteArray.empty)++bk N++bOne 58++wA w (l.getD i default) (a+i+1))++blkL N:=by
    simp only[dl_app,dl_bk,dl_tB,dl_one,e1]
    unfold Mem.txt
    simp
   rw[hm]
   by_cases h0:0<i
   ·rw[if_neg (by intro e; rw[e]at h1; simp at h1; omega),if_pos h0,h4 h0]
    simp only[dl_app,dl_bk,dl_one]
    simp
   ·have:L=[]:=List.eq_nil_of_length_eq_zero (by omega)
    subst this
    have:i=0:=by omega
    subst this
    rw[if_pos rfl,if_neg h0]
    rfl
theorem wr_rd (w:List Int):∀v,goodB v=true->fitV v=true->∀a,WrOk v (wA w v a):=by
 refine V.ind fun v ih hg hf a=>?_
 rw[goodB_eq]at hg
 rw[fitV_eq]at hf
 simp only[Bool.and_eq_true,decide_eq_true_eq]at hg hf
 obtain⟨⟨⟨⟨hk,hb⟩,hkd⟩,hs⟩,hi⟩:=hg
 obtain⟨hn,hfi⟩:=hf
 have ih':∀x∈v.items,∀a,WrOk x (wA w x a):=fun x hx a=>ih x hx (List.all_eq_true.1 hi x hx) (List.all_eq_true.1 hfi x hx) a
 rw[wA_eq]
 generalize wN w a=N
 have go:∀c:List UInt8,dl (wCore N a v.kind v.b v.n v.s v.keys (v.items.map (wA w)))=c->RdV v (blkL N++c)->WrOk v (bk N++wCore N a v.kind v.b v.n v.s v.keys (v.items.map (wA w))++bk (N/3)):=fun c e h=>⟨blkL N++c,blkL (N/3),by rw[dl_app,dl_app,dl_bk,dl_bk,e],blkL_bl _,h⟩
 have bl:=blkL_bl N
 obtain⟨k,b,n,s,is,ks⟩:=v
 simp only[V.kind_mk,V.b_mk,V.n_mk,V.s_mk,V.items_mk,V.keys_mk]at *
 unfold bareB at hb
 simp only[Bool.and_eq_true,Bool.or_eq_true,decide_eq_true_eq,Bool.not_eq_true']at hb
 obtain⟨⟨⟨⟨b1,b2⟩,b3⟩,b4⟩,b5⟩:=hb
 have cases6:k=0∨k=1∨k=2∨k=3∨k=4∨k=5:=by omega
 have nb:¬k=1->b=false:=fun h=>b1.resolve_left h
 have nn:¬k=2->n=0:=fun h=>b2.resolve_left h
 have ns:¬k=3->s=ByteArray.empty:=fun h=>b3.resolve_left h
 have ni:k<4->is=[]:=fun h=>List.eq_nil_of_length_eq_zero (b4.resolve_left (by omega))
 have nk:¬k=5->ks=[]:=fun h=>List.eq_nil_of_length_eq_zero (b5.resolve_left h)
 rcases cases6 with rfl|rfl|rfl|rfl|rfl|rfl
 ·obtain rfl:=nb (by decide); obtain rfl:=nn (by decide); obtain rfl:=ns (by decide); obtain rfl:=ni (by decide); obtain rfl:=nk (by decide)
  exact go _ rfl (rdv_null bl)
 ·obtain rfl:=nn (by decide); obtain rfl:=ns (by decide); obtain rfl:=ni (by decide); obtain rfl:=nk (by decide)
  cases b with
  |true=>exact go _ rfl (rdv_true bl)
  |false=>exact go _ rfl (rdv_false bl)
 ·obtain rfl:=nb (by decide); obtain rfl:=ns (by decide); obtain rfl:=ni (by decide); obtain rfl:=nk (by decide)
  exact go _ rfl (rdv_num bl hn)
 ·obtain rfl:=nb (by decide); obtain rfl:=nn (by decide); obtain rfl:=ni (by decide); obtain rfl:=nk (by decide)
  obtain⟨p1,p2⟩:=pts_text hs N
  have r:=rdv_text bl p2
  rw[p1]at r
  exact go _ rfl r
 ·obtain rfl:=nb (by decide); obtain rfl:=nn (by decide); obtain rfl:=ns (by decide); obtain rfl:=nk (by decide)
  obtain⟨L,l1,l2,l3,l4⟩:=arB_it (a:=a) ih' is.length (Nat.le_refl _)
  rw[List.take_length]at l2
  have r:=rdv_arr bl bl l3
  rw[l2]at r
  refine go _ ?_ r
  unfold wCore
  rw[if_neg (by decide),if_neg (by decide),if_neg (by decide),if_neg (by decide),if_pos rfl,List.length_map,dl_app,dl_app,dl_app,dl_one,dl_one,dl_bk,l4]
  simp
 ·obtain rfl:=nb (by decide); obtain rfl:=nn (by decide); obtain rfl:=ns (by decide)
  unfold keyedB at hkd
  simp only[Bool.and_eq_true,Bool.or_eq_true,decide_eq_true_eq]at hkd
  obtain⟨⟨kt,ksort⟩,klen⟩:=hkd
  have hkl:ks.length=is.length:=klen.resolve_left (fun h=>h rfl)
  have hst:=(sortB_iff ks).1 ksort
  have hkt:∀x∈rotL (N.toNat%is.length) ks,isT x=true:=fun x hx=>List.all_eq_true.1 kt x (rotL_mem.1 hx)
  obtain⟨L,l1,l2,l2',l3,l4⟩:=obB_me (w:=w) (N:=N) (a:=a) (ks:=rotL (N.toNat%is.length) ks) (l:=rotL (N.toNat%is.length) is) (by rw[rotL_len,rotL_len,hkl]) hkt (fun x hx=>ih' x (rotL_mem.1 hx)) is.length (by rw[rotL_len]; exact Nat.le_refl _)
  rw[List.take_of_length_le (by rw[rotL_len,hkl]; exact Nat.le_refl _)]at l2
  rw[List.take_of_length_le (by rw[rotL_len]; exact Nat.le_refl _)]at l2'
  have hov:objV (L.map Mem.key) (L.map Mem.v) = .mk 5 false 0 ByteArray.empty is ks:=by rw[l2,l2']; exact objV_rot _ hst hkl
  have hdv:dV (.mk 5 false 0 ByteArray.empty is ks)=dVs (L.map Mem.v)+1:=by rw[l2',rotL_dVs,dV_eq]; rfl
  have hnd:(L.map Mem.key).Nodup:=by
   rw[l2]
   have h1:=hst.nodup
   rw[<-List.take_append_drop (N.toNat%is.length) ks]at h1
   exact(List.perm_append_comm.nodup_iff).1 h1
  by_cases hz:is=[]
  ·have hL:L=[]:=List.eq_nil_of_length_eq_zero (by rw[l1,hz]; rfl)
   subst hL
   have r:=rdv_obj (L:=[]) bl bl l3 hnd hov hdv
   refine go _ ?_ r
   subst hz
   unfold wCore
   rw[if_neg (by decide),if_neg (by decide),if_neg (by decide),if_neg (by decide),if_neg (by decide),dl_app,dl_app,dl_app,dl_one,dl_one,dl_bk]
   simp[obB,meL,dl]
  ·have r:=rdv_obj bl Bl.nil l3 hnd hov hdv
   refine go _ ?_ r
   unfold wCore
   rw[if_neg (by decide),if_neg (by decide),if_neg (by decide),if_neg (by decide),if_neg (by decide),List.length_map,rotL_map,dl_app,dl_app,dl_app,dl_one,dl_one,dl_bk,l4 (List.length_pos_iff.2 hz)]
   simp
end Go.Proofs.YtcgmpcbkndpmbaaGreatDoor

end
