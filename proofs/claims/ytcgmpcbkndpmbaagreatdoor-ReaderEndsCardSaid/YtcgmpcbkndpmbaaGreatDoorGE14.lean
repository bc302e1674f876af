/-
  Contracts and plain laws on the way to the statement; each says its own conditions.
-/
import Derived.Test.YtcgmpcbkndpmbaaGreatDoorGE10
import Derived.Test.YtcgmpcbkndpmbaaGreatDoorGE8
import Derived.Test.YtcgmpcbkndpmbaaGreatDoorGE11
import Derived.Test.YtcgmpcbkndpmbaaGreatDoorGE13
import Derived.Test.YtcgmpcbkndpmbaaGreatDoorGE12
section
open Go Go.Proofs Go.Pw Go.RowKit
namespace Go.Proofs.YtcgmpcbkndpmbaaGreatDoor
set_option maxRecDepth 4000
set_option linter.unusedVariables false
set_option linter.unusedSimpArgs false
set_option maxHeartbeats 32000000 in
theorem rd_deep (s:ByteArray)(D m:Int)(hm:D<=m)(i:Nat)(t:Tk)(place code:Int):VOk 49 s D m ⟨t,i,place,code⟩ (fin s (.bad 6 t.at_)):=by
 have cf:=rd_fail s D ⟨t,i,place,code⟩ t.at_ 6
 refine OkI.of_pwpF (by kernel_rfl) Tryz.func49 rfl (by kernel_rfl) (by kernel_rfl) (bar:=bar2 21 100 noBar) ?_
 simp -implicitDefEqProofs (disch:=omega) only[go_sem,simprocAttr,Nat.le_refl,Tk.cells,str_eq,str_one,Tryz.results49,decide_eq_true hm,dropH,inL]
 refine CallOk.ofI (cf.at (st:=⟨[],_,_,_,_⟩) 0 1 (by decide) (by simp) (by simp) rfl (fun _ _=>rfl) (by rfl) (by rfl)) rfl rfl rfl rfl ?_
 rintro r1 st' ⟨_,_,rfl,nt9,q9,rfl⟩
 simp only at q9
 simp -implicitDefEqProofs (disch:=omega) only[go_sem,simprocAttr,Nat.le_refl,Tk.cells,str_eq,str_one,Tryz.results49,dropH,inL]
 refine⟨⟨[],rdH s D ⟨t,i,t.at_,6⟩,[],2,0⟩,⟨(vZero,false,⟨t,i,t.at_,6⟩),?_,rfl,rfl,rfl,rfl⟩,?_⟩
 ·exact vp_bad (by decide) rfl rfl vZero_sz
 constructor<;>simp only[go_sem,simprocAttr,decide_eq_true_eq,vZero,cellsV]<;>try ((repeat' apply And.intro)<;>first|rfl|omega|(congr 3; omega)|(congr 2; omega))
end Go.Proofs.YtcgmpcbkndpmbaaGreatDoor

end
section
open Go Go.Proofs Go.Pw Go.RowKit
namespace Go.Proofs.YtcgmpcbkndpmbaaGreatDoor
set_option maxRecDepth 4000
set_option linter.unusedVariables false
set_option linter.unusedSimpArgs false
theorem rd_all (s:ByteArray)(hs:s.size<=20000)(D:Int)(hD0:0<=D)(hD:D<9223372036854775808):∀(k:Nat)(m:Int),0<=m->m+k=D->∀p,p<=s.size->nE s p=0->∀pl co,VOk 29 s D m ⟨nT s p,nQ s p,pl,co⟩ (fin s (rV s k p))
 |0,m,h0,hk,p,hp,h1,pl,co=>by
  rw[rV]
  exact rd_value s hs D m p hp h1 _ _ rfl rfl pl co _ (fun _=>rd_deep s D m (by omega) _ _ pl co)
 |k+1,m,h0,hk,p,hp,h1,pl,co=>by
  have ih:=rd_all s hs D hD0 hD k (m+1) (by omega) (by omega)
  rw[rV]
  refine rd_value s hs D m p hp h1 _ _ rfl rfl pl co _ (fun h=>?_)
  by_cases h91:(nT s p).sign 91=true
  ·rw[if_pos h91]
   have h123:(nT s p).sign 123=false:=by
    cases h2:(nT s p).sign 123 with
    |false=>rfl
    |true=>exact absurd ((sign_text h91).symm.trans (sign_text h2)) (by decide)
   exact rd_arr s hs D m (by omega) h0 hD p hp h1 _ _ rfl rfl pl co h123 (rV s k) (fun q hq hn=>ih q hq hn) (rV_ok s k) (fun q=>rV_err) (rArr_ok (rV_ok s k) hp h1 (sign_kind h91))
  ·rw[if_neg h91]
   have h123:(nT s p).sign 123=true:=h.resolve_left h91
   exact rd_obj s hs D m (by omega) h0 hD p hp h1 _ _ rfl rfl pl co h123 (rV s k) (fun q hq hn=>ih q hq hn) (rV_ok s k) (fun q=>rV_err) (rObj_ok (rV_ok s k) hp h1 (sign_kind h123))
end Go.Proofs.YtcgmpcbkndpmbaaGreatDoor

end
section
open Go Go.Proofs Go.Pw Go.RowKit
namespace Go.Proofs.YtcgmpcbkndpmbaaGreatDoor
set_option maxRecDepth 4000
set_option linter.unusedVariables false
set_option linter.unusedSimpArgs false
def An.cells (A:An):List PV:=[vI A.v.kind,vB A.v.b,vI A.v.n,vS A.v.s,.sl (encV A.v.items),.sl (encT A.v.keys),vI (if A.code=0 then A.at_ else A.place),vI A.code]
def An.R (A:An):PV:= .agg A.cells
end Go.Proofs.YtcgmpcbkndpmbaaGreatDoor

end
section
open Go Go.Proofs Go.Pw Go.RowKit
namespace Go.Proofs.YtcgmpcbkndpmbaaGreatDoor
set_option maxRecDepth 4000
set_option linter.unusedVariables false
set_option linter.unusedSimpArgs false
end Go.Proofs.YtcgmpcbkndpmbaaGreatDoor

end
section
open Go Go.Proofs Go.Pw Go.RowKit
namespace Go.Proofs.YtcgmpcbkndpmbaaGreatDoor
set_option maxRecDepth 4000
set_option linter.unusedVariables false
set_option linter.unusedSimpArgs false
end Go.Proofs.YtcgmpcbkndpmbaaGreatDoor

end
section
open Go Go.Proofs Go.Pw Go.RowKit
namespace Go.Proofs.YtcgmpcbkndpmbaaGreatDoor
set_option maxRecDepth 4000
set_option linter.unusedVariables false
set_option linter.unusedSimpArgs false
def parseA (s:ByteArray)(d:Int):An:=
 if d<0∨64<d then .bad 8 0 else
 if 16384<s.size then .bad 7 0 else
 if(rV s d.toNat 0).code≠0 then .bad (rV s d.toNat 0).code (rV s d.toNat 0).place else
 if nE s (rV s d.toNat 0).at_≠0 then .bad (nE s (rV s d.toNat 0).at_) (nP s (rV s d.toNat 0).at_) else
 if(nT s (rV s d.toNat 0).at_).kind≠0 then .bad 1 (nT s (rV s d.toNat 0).at_).at_ else .good (rV s d.toNat 0).v 0
def parseR (A:An):PV:= .tup [.agg (cellsV A.v),vI (if A.code=0 then 0 else A.place),vI A.code]
end Go.Proofs.YtcgmpcbkndpmbaaGreatDoor

end
