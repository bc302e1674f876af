/-
  Contracts and plain laws on the way to the statement; each says its own conditions.
-/
import Derived.Test.YtcgmpcbkndpmbaaGreatDoorGE16
import Derived.Test.YtcgmpcbkndpmbaaGreatDoorGE17
import Derived.Test.YtcgmpcbkndpmbaaGreatDoorGE8
import Derived.Test.YtcgmpcbkndpmbaaGreatDoorGE10
import Derived.Test.YtcgmpcbkndpmbaaGreatDoorGE12
import Derived.Test.YtcgmpcbkndpmbaaGreatDoorGE6
section
open Go Go.Proofs Go.Pw Go.RowKit
namespace Go.Proofs.YtcgmpcbkndpmbaaGreatDoor
set_option maxRecDepth 4000
set_option linter.unusedVariables false
set_option linter.unusedSimpArgs false
theorem dV_nV:∀v,dV v<=nV v:=by
 refine V.ind fun v ih=>?_
 rw[dV_eq,nV_eq]
 have:∀l:List V,(∀x∈l,dV x<=nV x)->dVs l<=nVs l:=by
  intro l
  induction l with
  |nil=>intro _; rw[dVs_nil]; omega
  |cons x r ihr=>
   intro h
   have h1:=h x (List.mem_cons_self)
   have h2:=ihr (fun y hy=>h y (List.mem_cons_of_mem _ hy))
   rw[dVs_cons,nVs_cons]; omega
 have:=this v.items ih
 split<;>omega
end Go.Proofs.YtcgmpcbkndpmbaaGreatDoor

end
section
open Go Go.Proofs Go.Pw Go.RowKit
namespace Go.Proofs.YtcgmpcbkndpmbaaGreatDoor
set_option maxRecDepth 4000
set_option linter.unusedVariables false
set_option linter.unusedSimpArgs false
attribute [local go_sem] Bool.not_false Bool.not_true Int.toNat_natCast Int.toNat_one Int.toNat_zero List.length_cons List.length_nil List.size_toArray Nat.le_refl Tryz.results6 encC_len str_eq
theorem dl_mk (l:List UInt8):dl ⟨l.toArray⟩=l:=by simp[dl]
theorem pass_skip {s:ByteArray}:∀(bl:List UInt8)(i:Nat)(l:List UInt8),Sfx s i (bl++l)->Bl bl->passF s blS i=passF s blS (i+bl.length)
 | [],i,l,h,hb=>rfl
 |c::r,i,l,h,hb=>by
  have h1:Sfx s i (c::(r++l)):=h
  rw[passF_t (show hasF s ⟨blL.toArray⟩ i=true by rw[h1.has]; exact hb c (List.mem_cons_self)),pass_skip r (i+1) l h1.next (fun x hx=>hb x (List.mem_cons_of_mem _ hx)),List.length_cons]
  congr 1
  omega
theorem nx_skip {s:ByteArray}{bl:List UInt8}{i:Nat}{l:List UInt8}(h:Sfx s i (bl++l))(hb:Bl bl):nE s i=nE s (i+bl.length)/\nP s i=nP s (i+bl.length)/\nT s i=nT s (i+bl.length):=by
 have e:=pass_skip bl i l h hb
 have key:∀i j b e' (t:Tk) q,(nextE i b e' t q).1=(nextE j b e' t q).1/\(nextE i b e' t q).2.1=(nextE j b e' t q).2.1/\(nextE i b e' t q).2.2.1=(nextE j b e' t q).2.2.1:=fun i j b e' t q=>by
  unfold nextE
  split<;>exact⟨rfl,rfl,rfl⟩
 show(nextF s i).1=(nextF s (i+bl.length)).1/\(nextF s i).2.1=(nextF s (i+bl.length)).2.1/\(nextF s i).2.2.1=(nextF s (i+bl.length)).2.2.1
 unfold nextF
 rw[e]
 split
 ·exact⟨rfl,rfl,rfl⟩
 split
 ·exact key _ _ _ _ _ _
 split
 ·exact key _ _ _ _ _ _
 split
 ·exact key _ _ _ _ _ _
 ·exact key _ _ _ _ _ _
theorem parse_ends {v:V}{b more:ByteArray}(h:WrOk v b)(hd:dV v<=64)(hs:(b++⟨#[32]⟩++more).size<=16384) :
  parseA (b++⟨#[32]⟩++more) (64:Nat)=(if nE (b++⟨#[32]⟩++more) (b++⟨#[32]⟩).size≠0 then .bad (nE (b++⟨#[32]⟩++more) (b++⟨#[32]⟩).size) (nP (b++⟨#[32]⟩++more) (b++⟨#[32]⟩).size) else
   if(nT (b++⟨#[32]⟩++more) (b++⟨#[32]⟩).size).kind≠0 then .bad 1 (nT (b++⟨#[32]⟩++more) (b++⟨#[32]⟩).size).at_ else .good v 0):=by
 obtain⟨t,tr,e,h1,h2⟩:=h
 have hb:Sfx (b++⟨#[32]⟩++more) 0 (t++(tr++32::dl more)):=by
  have h:=Sfx.all (b++⟨#[32]⟩++more)
  have e2:(b++⟨#[32]⟩++more).data.toList=t++(tr++32::dl more):=by
   show dl _=_
   simp only[dl_app,dl_mk,e]
   simp
  rw[e2]at h
  exact h
 have hz:(b++(⟨#[32]⟩:ByteArray)).size=t.length+(tr++[32]).length:=by
  have:=size_list (b++(⟨#[32]⟩:ByteArray))
  rw[<-this]
  have e3:(b++(⟨#[32]⟩:ByteArray)).data.toList=t++(tr++[32]):=by
   show dl _=_
   simp only[dl_app,dl_mk,e]
   simp
  rw[e3,List.length_append]
 rw[hz]
 generalize b++⟨#[32]⟩++more=S at *
 have r:=(h2 S 0 _ 64 hb (stp_blanks h1 (by decide))).1 hd
 have h3:Sfx S (0+t.length) ((tr++[32])++dl more):=by
  have:=hb.app
  rw[show tr++32::dl more=(tr++[32])++dl more by simp]at this
  exact this
 rw[Nat.zero_add]at r h3
 obtain⟨g1,g2,g3⟩:=nx_skip h3 (h1.app Bl.one)
 rw[parseA_of (by decide) hs,r,if_neg (show ¬(An.good v t.length).code≠0 from fun h=>h rfl),<-g1,<-g2,<-g3]
 rfl
set_option maxHeartbeats 8000000 in
theorem ends_ok (l:List Nd)(more:ByteArray)(hN:NdsOk l)(hl:l.length<=9223372036854775807)(hm:more.size<=140737488351232):Ok Tryz.prog 6 [.sl (encN l),vS more] (vB true):=by
 have c0:=awake6_ok
 refine Ok.of_pwp (by kernel_rfl) Tryz.func6 rfl (by kernel_rfl) (by kernel_rfl) ?_
 simp -implicitDefEqProofs (disch:=omega) only[go_sem,simprocAttr,cellsV,decide_true,beq_self_eq_true,ByteArray.size_append]
 with_reducible refine CallOk.of c0 rfl ?_
 by_cases h100:more.size<=100
 rotate_left
 ·simp -implicitDefEqProofs (disch:=omega) only[go_sem,simprocAttr,cellsV,decide_true,beq_self_eq_true,ByteArray.size_append,decide_eq_true (show(100:Int)<(more.size:Int) by omega)]
  with_reducible refine CallOk.of c0 rfl ?_
  simp -implicitDefEqProofs (disch:=omega) only[go_sem,simprocAttr,cellsV,decide_true,beq_self_eq_true,ByteArray.size_append]
 simp -implicitDefEqProofs (disch:=omega) only[go_sem,simprocAttr,cellsV,decide_true,beq_self_eq_true,ByteArray.size_append,decide_eq_false (show ¬(100:Int)<(more.size:Int) by omega)]
 refine CallOk.ofI (OkI.ofQ (st:=⟨[],_,_,_,_⟩) (tree_ok l hN hl) ?_) rfl rfl rfl rfl ?_
 ·rfl
 rintro r st1 ⟨⟨v,hv,rfl⟩,rfl⟩
 have hg:=hv.good
 have hz:=hv.sz
 have hn:=hv.size
 have hdn:=dV_nV v
 have c1:=lwrite_ok [] (by simp) (fun n h=>by cases h) v 0 hg hv.fit (by omega) (by omega)
 have hwr:=wr_rd [] v hg hv.fit ((0:Nat):Int)
 have hwz:=wA_size [] v hg hv.fit ((0:Nat):Int)
 simp only[cellsV,Int.natCast_zero,encC,List.map_nil]at c1
 rw[Int.natCast_zero]at hwr hwz
 generalize wA [] v 0=b at *
 have e1:(⟨#[32]⟩:ByteArray).size=1:=rfl
 have hbs:(b++(⟨#[32]⟩:ByteArray)).size=b.size+1:=by rw[ByteArray.size_append,e1]
 simp -implicitDefEqProofs (disch:=omega) only[go_sem,simprocAttr,cellsV,decide_true,beq_self_eq_true,ByteArray.size_append]
 with_reducible refine CallOk.of c1 rfl ?_
 by_cases hs:b.size+1<=16000
 rotate_left
 ·simp -implicitDefEqProofs (disch:=omega) only[go_sem,simprocAttr,cellsV,decide_true,beq_self_eq_true,ByteArray.size_append,decide_eq_true (show(16000:Int)<((b.size+1:Nat):Int) by omega)]
 have hS:(b++(⟨#[32]⟩:ByteArray)++more).size=b.size+1+more.size:=by rw[ByteArray.size_append,hbs]
 have c2:=parse_ok6 (b++⟨#[32]⟩++more) (by omega) (64:Nat) (by decide)
 have c3:=rnext_ok (b++⟨#[32]⟩++more) (b++⟨#[32]⟩).size (by omega) (by omega) (by omega)
 rw[parse_ends hwr (by omega) (by omega)]at c2
 rw[hbs]at c2 c3
 simp only[nE,nP,nT]at c2
 unfold NextR at c3
 generalize nextF (b++⟨#[32]⟩++more) (b.size+1)=X at *
 obtain⟨ec,pl,tk,qq⟩:=X
 simp only[Tk.cells]at c2 c3
 simp -implicitDefEqProofs (disch:=omega) only[go_sem,simprocAttr,cellsV,decide_true,beq_self_eq_true,ByteArray.size_append,decide_eq_false (show ¬(16000:Int)<((b.size+1:Nat):Int) by omega)]
 with_reducible refine CallOk.of c3 rfl ?_
 by_cases hc:ec=0
 rotate_left
 ·rw[if_pos hc]at c2
  have e:parseR (.bad ec pl) = .tup [.agg (cellsV vZero),vI pl,vI ec]:=by
   unfold parseR An.bad
   simp only[if_neg hc]
  rw[e]at c2
  simp only[cellsV]at c2
  simp -implicitDefEqProofs (disch:=omega) only[go_sem,simprocAttr,cellsV,decide_true,beq_self_eq_true,ByteArray.size_append]
  with_reducible refine CallOk.of c2 rfl ?_
  simp -implicitDefEqProofs (disch:=omega) only[go_sem,simprocAttr,cellsV,decide_true,beq_self_eq_true,ByteArray.size_append,decide_eq_false hc]
 rw[if_neg (fun h=>h hc)]at c2
 by_cases hk:tk.kind=0
 rotate_left
 ·rw[if_pos hk]at c2
  have e:parseR (.bad 1 tk.at_) = .tup [.agg (cellsV vZero),vI tk.at_,vI 1]:=rfl
  rw[e]at c2
  simp only[cellsV]at c2
  simp -implicitDefEqProofs (disch:=omega) only[go_sem,simprocAttr,cellsV,decide_true,beq_self_eq_true,ByteArray.size_append]
  with_reducible refine CallOk.of c2 rfl ?_
  simp -implicitDefEqProofs (disch:=omega) only[go_sem,simprocAttr,cellsV,decide_true,beq_self_eq_true,ByteArray.size_append,hc,decide_eq_false hk]
 rw[if_neg (fun h=>h hk)]at c2
 have e:parseR (.good v 0) = .tup [.agg (cellsV v),vI 0,vI 0]:=rfl
 rw[e]at c2
 simp only[cellsV]at c2
 simp -implicitDefEqProofs (disch:=omega) only[go_sem,simprocAttr,cellsV,decide_true,beq_self_eq_true,ByteArray.size_append]
 with_reducible refine CallOk.of c2 rfl ?_
 simp -implicitDefEqProofs (disch:=omega) only[go_sem,simprocAttr,cellsV,decide_true,beq_self_eq_true,ByteArray.size_append,hc,hk]
end Go.Proofs.YtcgmpcbkndpmbaaGreatDoor

end
section
open Go Go.Proofs Go.Pw Go.RowKit
namespace Go.Proofs.YtcgmpcbkndpmbaaGreatDoor
set_option maxRecDepth 4000
set_option linter.unusedVariables false
set_option linter.unusedSimpArgs false
theorem wf_u8_ {n:Int}(h:(Lit.int .u8 n).wf=true):0<=n/\n<=255:=by
 simp only[Lit.wf,Bool.and_eq_true,decide_eq_true_eq]at h
 exact h
theorem wf_i64_ {n:Int}(h:(Lit.int .i64 n).wf=true) : -9223372036854775808<=n/\n<=9223372036854775807:=by
 simp only[Lit.wf,Bool.and_eq_true,decide_eq_true_eq]at h
 exact h
section
variable {H:Type} {en:TypeId×Value->H} {w:World} {base:Nat} {spare:Nat->Bool} {held:Bool}
theorem rdTexts:Rd en Tryz.prog w base spare held 26 (fun l:List ByteArray=>[.sl (encT l)]) (fun l=>l.length<=maxLen/\∀s∈l,s.size<=maxLen):=
 Rd.slice (sz:=1) Tryz.underlying26 (by kernel_rfl) (by decide) (fun _=>rfl) (Rd.string Tryz.underlying9)
theorem rdBytes:Rd en Tryz.prog w base spare held 23 (fun l:List Int=>[.sl (encC l)]) (fun l=>l.length<=maxLen/\∀n∈l,(Lit.int .u8 n).wf=true):=
 Rd.slice (sz:=1) Tryz.underlying23 (by kernel_rfl) (by decide) (fun _=>rfl) (Rd.int Tryz.underlying5)
theorem rdNode:Rd en Tryz.prog w base spare held 54 cellsN NdOk:=by
 refine Rd.map (Rd.struct5 Tryz.underlying54 rfl (by kernel_rfl) rfl rfl rfl rfl rfl (by kernel_rfl) (by kernel_rfl) (by kernel_rfl) (by kernel_rfl) (by kernel_rfl)
  (Rd.int Tryz.underlying5) (Rd.int Tryz.underlying2) (Rd.string Tryz.underlying9) rdBytes rdTexts)
  (fun a=>⟨a.1,a.2.1,a.2.2.1,a.2.2.2.1,a.2.2.2.2⟩) (fun a=>rfl) (fun a h=>⟨wf_u8_ h.1,wf_i64_ h.2.1,fun d hd=>wf_u8_ (h.2.2.2.1.2 d hd),h.2.2.2.1.1,h.2.2.2.2.1⟩)
theorem rdNodes:Rd en Tryz.prog w base spare held 22 (fun l:List Nd=>[.sl (encN l)]) (fun l=>l.length<=maxLen/\NdsOk l):=
 Rd.slice (sz:=5) Tryz.underlying22 (by kernel_rfl) (by decide) (fun _=>rfl) rdNode
end
end Go.Proofs.YtcgmpcbkndpmbaaGreatDoor

end
