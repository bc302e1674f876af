/-
  Contracts and plain laws on the way to the statement; each says its own conditions.
-/
import Derived.Test.YtcgmpcbkndpmbaaGreatDoorGE3
section
open Go Go.Proofs Go.Pw Go.RowKit
namespace Go.Proofs.YtcgmpcbkndpmbaaGreatDoor
set_option maxRecDepth 4000
set_option linter.unusedVariables false
set_option linter.unusedSimpArgs false
attribute [local go_sem] Delta.val Nat.le_refl Tryz.results89 sliceLike
def bldQ (T:TypeId)(s:ByteArray)(rest:List PV)(R:PV)(r:PV)(st:PS):Prop:=r=R/\∃k,k<st.nt/\1<=st.nt/\st.nx=1/\st.heap=bldB T k (.ptr 0 0) s rest/\st.toks=tokS k 5 s
theorem rowS_rm (f g:Nat->Nat)(k:Nat)(s:ByteArray):(rowS k s).rm f g=rowS (g k) s:=by unfold rowS; split<;>rfl
theorem tokS_rm (g:Nat->Nat)(k:Nat)(s:ByteArray)(e:TypeId):rmK g (tokS k e s)=tokS (g k) e s:=by unfold tokS; split<;>rfl
theorem rowS_lt (a b k:Nat)(s:ByteArray)(h:k<b):(rowS k s).lt a b=true:=by unfold rowS; split<;>simp[PV.lt,h]
theorem app_s0 {e:TypeId}{b tk:Nat}{st:PS}{K:Delta->Prop}{d:PV}{t:ByteArray}(h0:t.size=0):appS e b st tk K d (.val (.string t))=(sliceLike d=true/\K (.val d)):=by
 have hn:=encS_len t
 unfold appS
 simp only
 generalize encS t=l at *
 cases l with
 |nil=>rfl
 |cons y r=>simp at hn; omega
theorem bld_at0 {g0:FuncId}{T:TypeId}{s s':ByteArray}{a':PV}{rest as0:List PV}{R:PV}(i k:Nat){st:PS}
  (ok:∀a,(a=vNP∨a = .ptr 0 0)->a.rm (rnF [i] st.nx) (rnF [k] st.nt)=a'->OkI Tryz.prog g0 (.ptr 0 0::as0) ⟨[],bldB T 0 a s rest,tokS 0 5 s,1,1⟩ (bldQ T s' rest R))
  (hi:i<st.nx) (hk:k<st.nt) (ha:a'=vNP∨a' = .ptr i 0) (hrest:PV.ltL 0 0 rest=true) (has:PV.ltL 0 0 as0=true) (hR:R.lt 0 0=true)
  (ho:lkp st.heap i=some (.box T (a'::rowS k s::rest))) (ht:s.size≠0->lkp st.toks k=some ⟨5,1,s.size⟩) :
  OkI Tryz.prog g0 (.ptr i 0::as0) st (fun r st'=>r=R/\∃k' nt',k'<nt'/\st.nt<=nt'/\st'=⟨st.env,(i,.box T (.ptr i 0::rowS k' s'::rest))::dropH [i] st.heap,tokS k' 5 s'++dropK [k] st.toks,st.nx,nt'⟩):=by
 obtain⟨a,hca,haa⟩:∃a,(a=vNP∨a = .ptr 0 0)/\a.rm (rnF [i] st.nx) (rnF [k] st.nt)=a'/\a.lt 1 1=true:=by
  rcases ha with rfl|rfl
  ·exact⟨vNP,.inl rfl,rfl,rfl⟩
  ·exact⟨.ptr 0 0,.inr rfl,rfl,rfl⟩
 refine OkI.mono' (OkI.frameT [i] [k] (ok a hca haa.1) (by simp) (fun j hj=>by rw[List.mem_singleton]at hj; subst hj; exact hi) (by simp) (fun j hj=>by rw[List.mem_singleton]at hj; subst hj; exact hk) (fun e he=>?_) (fun e he=>?_) ?_ ?_) ?_
 ·simp only[bldB,List.mem_singleton]at he
  subst he
  refine⟨Nat.zero_lt_one,?_,?_⟩
  ·simp only[PObj.lt,PV.ltL,haa.2,rowS_lt 1 1 0 s Nat.zero_lt_one,ltL_low (Nat.zero_le 1) (Nat.zero_le 1) rest hrest,Bool.and_self,List.length_singleton]
  ·show lkp st.heap i=_
   rw[ho,PObj.rm,PV.rmL,PV.rmL,haa.1,rowS_rm,rmL_frz rest hrest]
   rfl
 ·unfold tokS at he
  split at he
  ·cases he
  ·rename_i h0
   rw[List.mem_singleton]at he
   subst he
   exact⟨Nat.zero_lt_one,ht h0⟩
 ·simp only[PV.ltL,PV.lt,List.length_singleton,Nat.zero_lt_one,decide_true,Bool.true_and]
  exact ltL_low (Nat.zero_le 1) (Nat.zero_le 1) as0 has
 ·rw[PV.rmL,rmL_frz as0 has]; rfl
 ·rintro r st' ⟨r0,s0,⟨rfl,k0,h1,h2,h3,h4,h5⟩,rfl,rfl⟩
  refine⟨rm_frz r0 hR,rnF [k] st.nt k0,s0.nt-1+st.nt,?_,by omega,?_⟩
  ·cases k0 with
   |zero=>show k<_; omega
   |succ n=>rw[rnF_high (l:=[k]) (n+1) (by simp)]; simp only[List.length_singleton]; omega
  ·rw[h3,h4,h5,tokS_rm]
   simp only[bldB,rmH,PObj.rm,PV.rmL,rowS_rm,rmL_frz rest hrest,List.length_singleton,List.cons_append,List.nil_append]
   have:1-1+st.nx=st.nx:=by omega
   rw[this]
   rfl
theorem bld_at {g0:FuncId}{T:TypeId}{s s':ByteArray}{a':PV}{rest as0:List PV}{R:PV}(i k:Nat){st:PS}
  (ok:∀a,(a=vNP∨a = .ptr 0 0)->OkI Tryz.prog g0 (.ptr 0 0::as0) ⟨[],bldB T 0 a s rest,tokS 0 5 s,1,1⟩ (bldQ T s' rest R))
  (hi:i<st.nx) (hk:k<st.nt) (ha:a'=vNP∨a' = .ptr i 0) (hrest:PV.ltL 0 0 rest=true) (has:PV.ltL 0 0 as0=true) (hR:R.lt 0 0=true)
  (ho:lkp st.heap i=some (.box T (a'::rowS k s::rest))) (ht:s.size≠0->lkp st.toks k=some ⟨5,1,s.size⟩) :
  OkI Tryz.prog g0 (.ptr i 0::as0) st (fun r st'=>r=R/\∃k' nt',k'<nt'/\st.nt<=nt'/\st'=⟨st.env,(i,.box T (.ptr i 0::rowS k' s'::rest))::dropH [i] st.heap,tokS k' 5 s'++dropK [k] st.toks,st.nx,nt'⟩):=
 bld_at0 i k (fun a h _=>ok a h) hi hk ha hrest has hR ho ht
theorem string_at {T:TypeId}{s:ByteArray}{a':PV}{rest:List PV}(i k:Nat){st:PS}(hi:i<st.nx)(hk:k<st.nt)(ha:a'=vNP∨a' = .ptr i 0)(hrest:PV.ltL 0 0 rest=true)
  (ho:lkp st.heap i=some (.box T (a'::rowS k s::rest))) (ht:s.size≠0->lkp st.toks k=some ⟨5,1,s.size⟩) :
  OkI Tryz.prog 92 [.ptr i 0] st (fun r st'=>r=vS s/\st'=⟨st.env,(i,.box T (a'::rowS k s::rest))::dropH [i] st.heap,dropK [k] st.toks,st.nx,st.nt⟩):=by
 obtain⟨a,hca,haa⟩:∃a,(a=vNP∨a = .ptr 0 0)/\a.rm (rnF [i] st.nx) (rnF [k] st.nt)=a'/\a.lt 1 1=true:=by
  rcases ha with rfl|rfl
  ·exact⟨vNP,.inl rfl,rfl,rfl⟩
  ·exact⟨.ptr 0 0,.inr rfl,rfl,rfl⟩
 refine OkI.mono' (OkI.frameT [i] [k] (string_ok0 T s 0 1 1 a rest) (by simp) (fun j hj=>by rw[List.mem_singleton]at hj; subst hj; exact hi) (by simp) (fun j hj=>by rw[List.mem_singleton]at hj; subst hj; exact hk) (fun e he=>?_) (fun e he=>?_) rfl rfl) ?_
 ·simp only[bldB,List.mem_singleton]at he
  subst he
  refine⟨Nat.zero_lt_one,?_,?_⟩
  ·simp only[PObj.lt,PV.ltL,haa.2,rowS_lt 1 1 0 s Nat.zero_lt_one,ltL_low (Nat.zero_le 1) (Nat.zero_le 1) rest hrest,Bool.and_self,List.length_singleton]
  ·show lkp st.heap i=_
   rw[ho,PObj.rm,PV.rmL,PV.rmL,haa.1,rowS_rm,rmL_frz rest hrest]
   rfl
 ·unfold tokS at he
  split at he
  ·cases he
  ·rename_i h0
   rw[List.mem_singleton]at he
   subst he
   exact⟨Nat.zero_lt_one,ht h0⟩
 ·rintro r st' ⟨r0,s0,⟨rfl,rfl⟩,rfl,rfl⟩
  refine⟨rfl,?_⟩
  simp only[bldB,rmH,rmK,PObj.rm,PV.rmL,rowS_rm,haa.1,rmL_frz rest hrest,List.length_singleton,List.cons_append,List.nil_append]
  have:1-1+st.nx=st.nx:=by omega
  have h2:1-1+st.nt=st.nt:=by omega
  rw[this,h2]
  rfl
set_option maxHeartbeats 4000000 in
theorem writeS_ok {T:TypeId}{rest:List PV}(hT:Heads T (rest.length+2))(hrest:PV.ltL 0 0 rest=true)(s t:ByteArray)(hl:s.size+t.size<=1000000)(a:PV)(ha:a=vNP∨a = .ptr 0 0) :
  OkI Tryz.prog 89 [.ptr 0 0,vS t] ⟨[],bldB T 0 a s rest,tokS 0 5 s,1,1⟩ (bldQ T (s++t) rest (.tup [vI t.size,.val .nilIface])):=by
 refine OkI.of_pwp (by kernel_rfl) Tryz.func89 rfl (by kernel_rfl) (by kernel_rfl) ?_
 have hst:(s++t).size=s.size+t.size:=by simp
 have hlt:∀(a b:Nat),PV.ltL a b rest=true:=fun a b=>ltL_low (Nat.zero_le a) (Nat.zero_le b) rest hrest
 by_cases ht:t.size=0
 ·have et:s++t=s:=by
   have:t=ByteArray.empty:=by
    cases t with
    |mk d=>congr 1; exact Array.size_eq_zero_iff.1 ht
   rw[this]
   simp
  by_cases hs:s.size=0
  ·simp only[bldB,rowS,tokS,hs,if_true]
   simp -implicitDefEqProofs (disch:=omega) only[go_sem,simprocAttr,app_s0]
   refine CallOk.ofI (copy_ok hT _ _ _ _ [] ha) rfl rfl rfl rfl ?_
   rintro r st1 ⟨rfl,rfl⟩
   simp -implicitDefEqProofs (disch:=omega) only[go_sem,simprocAttr,app_s0]
   rw[et]
   refine⟨⟨[],bldB T 0 (.ptr 0 0) s rest,tokS 0 5 s,1,1⟩,⟨rfl,0,by simp only; omega,by simp only; omega,rfl,rfl,rfl⟩,?_⟩
   simp only[bldB,rowS,tokS,hs,if_true]
   constructor<;>simp only[go_sem,simprocAttr,decide_eq_true_eq,ite_self,hlt]<;>try ((repeat' apply And.intro)<;>first|rfl|omega|(congr 3; omega)|(congr 2; omega))
  ·simp only[bldB,rowS,tokS,hs,if_false]
   simp -implicitDefEqProofs (disch:=omega) only[go_sem,simprocAttr,app_s0]
   refine CallOk.ofI (copy_ok hT _ _ _ _ _ ha) rfl rfl rfl rfl ?_
   rintro r st1 ⟨rfl,rfl⟩
   simp -implicitDefEqProofs (disch:=omega) only[go_sem,simprocAttr,app_s0]
   rw[et]
   refine⟨⟨[],bldB T 0 (.ptr 0 0) s rest,tokS 0 5 s,1,1⟩,⟨rfl,0,by simp only; omega,by simp only; omega,rfl,rfl,rfl⟩,?_⟩
   simp only[bldB,rowS,tokS,hs,if_false]
   constructor<;>simp only[go_sem,simprocAttr,decide_eq_true_eq,ite_self,hlt]<;>try ((repeat' apply And.intro)<;>first|rfl|omega|(congr 3; omega)|(congr 2; omega))
 have hne:¬(s++t).size=0:=by omega
 by_cases hs:s.size=0
 ·have es:s++t=t:=by
   have:s=ByteArray.empty:=by
    cases s with
    |mk d=>congr 1; exact Array.size_eq_zero_iff.1 hs
   rw[this]
   simp
  simp only[bldB,rowS,tokS,hs,if_true]
  simp -implicitDefEqProofs (disch:=omega) only[go_sem,simprocAttr,app_s0]
  refine CallOk.ofI (copy_ok hT _ _ _ _ [] ha) rfl rfl rfl rfl ?_
  rintro r st1 ⟨rfl,rfl⟩
  simp -implicitDefEqProofs (disch:=omega) only[go_sem,simprocAttr,app_s0]
  rw[es]
  refine⟨⟨[],bldB T (1+2+1+2+6) (.ptr 0 0) t rest,tokS (1+2+1+2+6) 5 t,1,1+2+1+2+10⟩,⟨rfl,1+2+1+2+6,by simp only; omega,by simp only; omega,rfl,rfl,rfl⟩,?_⟩
  simp only[bldB,rowS,tokS,ht,if_false]
  constructor<;>simp only[go_sem,simprocAttr,decide_eq_true_eq,ite_self,hlt]<;>try ((repeat' apply And.intro)<;>first|rfl|omega|(congr 3; omega)|(congr 2; omega))
 ·simp only[bldB,rowS,tokS,hs,if_false]
  simp -implicitDefEqProofs (disch:=omega) only[go_sem,simprocAttr,app_s0]
  refine CallOk.ofI (copy_ok hT _ _ _ _ _ ha) rfl rfl rfl rfl ?_
  rintro r st1 ⟨rfl,rfl⟩
  simp -implicitDefEqProofs (disch:=omega) only[go_sem,simprocAttr,app_s0]
  refine⟨⟨[],bldB T 0 (.ptr 0 0) (s++t) rest,tokS 0 5 (s++t),1,1⟩,⟨rfl,0,by simp only; omega,by simp only; omega,rfl,rfl,rfl⟩,?_⟩
  simp only[bldB,rowS,tokS,hne,if_false]
  simp only[hst]
  constructor<;>simp only[go_sem,simprocAttr,decide_eq_true_eq,ite_self,hlt]<;>try ((repeat' apply And.intro)<;>first|rfl|omega|(congr 3; omega)|(congr 2; omega))
end Go.Proofs.YtcgmpcbkndpmbaaGreatDoor

end
section
open Go Go.Proofs Go.Pw Go.RowKit
namespace Go.Proofs.YtcgmpcbkndpmbaaGreatDoor
set_option maxRecDepth 4000
set_option linter.unusedVariables false
set_option linter.unusedSimpArgs false
def bldP (T:TypeId)(i k:Nat)(st:PS)(s':ByteArray)(rest:List PV)(R:PV)(r:PV)(st':PS):Prop:=r=R/\∃k' nt',k'<nt'/\st.nt<=nt'/\st'=⟨st.env,(i,.box T (.ptr i 0::rowS k' s'::rest))::dropH [i] st.heap,tokS k' 5 s'++dropK [k] st.toks,st.nx,nt'⟩
theorem writeS_at {T:TypeId}{rest:List PV}(hT:Heads T (rest.length+2))(hrest:PV.ltL 0 0 rest=true){s t:ByteArray}{a':PV}(i k:Nat){st:PS}(hl:s.size+t.size<=1000000)(hi:i<st.nx)(hk:k<st.nt)(ha:a'=vNP∨a' = .ptr i 0)
  (ho:lkp st.heap i=some (.box T (a'::rowS k s::rest))) (ht:s.size≠0->lkp st.toks k=some ⟨5,1,s.size⟩):OkI Tryz.prog 89 [.ptr i 0,vS t] st (bldP T i k st (s++t) rest (.tup [vI t.size,.val .nilIface])):=
 bld_at i k (writeS_ok hT hrest s t hl) hi hk ha hrest rfl rfl ho ht
end Go.Proofs.YtcgmpcbkndpmbaaGreatDoor

end
