import Derived.Test.YtcgmpcbkndpmbaaGreatDoorGE14
import Derived.Test.YtcgmpcbkndpmbaaGreatDoorGE10
/-
 The reader: a text's value.
-/
open Go Go.Proofs Go.Pw Go.RowKit
namespace Go.Proofs.YtcgmpcbkndpmbaaGreatDoor
set_option maxRecDepth 4000
set_option linter.unusedVariables false
set_option linter.unusedSimpArgs false
attribute [local go_sem] Nat.le_refl Tk.cells Tryz.results11 Tryz.results27 str_eq
def tab_pp7:List Row:=[⟨#[false,false,false,false,false,false,false,false,false,false,false,false],[0,1,5],12⟩,⟨#[true,false,false,false,false,false,false,false,false,false,false,false],[1,5,9],11⟩,⟨#[false,true,false,false,false,false,false,false,false,false,false,false],[0,2,5],11⟩,⟨#[false,false,false,false,false,true,false,false,false,false,false,false],[0,1,6],11⟩,⟨#[true,true,false,false,false,false,false,false,false,false,false,false],[2,5,9],10⟩,⟨#[true,false,false,false,false,true,false,false,false,false,false,false],[1,6,9],10⟩,⟨#[true,false,false,false,false,false,false,false,false,true,false,false],[1,5],10⟩,⟨#[false,true,true,false,false,false,false,false,false,false,false,false],[0,3,5],10⟩,⟨#[false,true,false,false,false,true,false,false,false,false,false,false],[0,2,6],10⟩,⟨#[false,false,false,false,false,true,true,false,false,false,false,false],[0,1,7],10⟩,⟨#[true,true,true,false,false,false,false,false,false,false,false,false],[3,5,9],9⟩,⟨#[true,true,false,false,false,true,false,false,false,false,false,false],[2,6,9],9⟩,⟨#[true,true,false,false,false,false,false,false,false,true,false,false],[2,5],9⟩,⟨#[true,false,false,false,false,true,true,false,false,false,false,false],[1,7,9],9⟩,⟨#[true,false,false,false,false,true,false,false,false,true,false,false],[1,6],9⟩,⟨#[false,true,true,true,false,false,false,false,false,false,false,false],[0,4,5],9⟩,⟨#[false,true,true,false,false,true,false,false,false,false,false,false],[0,3,6],9⟩,⟨#[false,true,false,false,false,true,true,false,false,false,false,false],[0,2,7],9⟩,⟨#[false,false,false,false,false,true,true,true,false,false,false,false],[0,1,8],9⟩,⟨#[true,true,true,true,false,false,false,false,false,false,false,false],[4,5,9],8⟩,⟨#[true,true,true,false,false,true,false,false,false,false,false,false],[3,6,9],8⟩,⟨#[true,true,true,false,false,false,false,false,false,true,false,false],[3,5],8⟩,⟨#[true,true,false,false,false,true,true,false,false,false,false,false],[2,7,9],8⟩,⟨#[true,true,false,false,false,true,false,false,false,true,false,false],[2,6],8⟩,⟨#[true,false,false,false,false,true,true,true,false,false,false,false],[1,8,9],8⟩,⟨#[true,false,false,false,false,true,true,false,false,true,false,false],[1,7],8⟩,⟨#[false,true,true,true,true,false,false,false,false,false,false,false],[0,5],8⟩,⟨#[false,true,true,true,false,true,false,false,false,false,false,false],[0,4,6],8⟩,⟨#[false,true,true,false,false,true,true,false,false,false,false,false],[0,3,7],8⟩,⟨#[false,true,false,false,false,true,true,true,false,false,false,false],[0,2,8],8⟩,⟨#[false,false,false,false,false,true,true,true,true,false,false,false],[0,1],8⟩,⟨#[true,true,true,true,true,false,false,false,false,false,false,false],[5,9],7⟩,⟨#[true,true,true,true,false,true,false,false,false,false,false,false],[4,6,9],7⟩,⟨#[true,true,true,true,false,false,false,false,false,true,false,false],[4,5],7⟩,⟨#[true,true,true,false,false,true,true,false,false,false,false,false],[3,7,9],7⟩,⟨#[true,true,true,false,false,true,false,false,false,true,false,false],[3,6],7⟩,⟨#[true,true,false,false,false,true,true,true,false,false,false,false],[2,8,9],7⟩,⟨#[true,true,false,false,false,true,true,false,false,true,false,false],[2,7],7⟩,⟨#[true,false,false,false,false,true,true,true,true,false,false,false],[1,9],7⟩,⟨#[true,false,false,false,false,true,true,true,false,true,false,false],[1,8],7⟩,⟨#[false,true,true,true,true,true,false,false,false,false,false,false],[0,6],7⟩,⟨#[false,true,true,true,false,true,true,false,false,false,false,false],[0,4,7],7⟩,⟨#[false,true,true,false,false,true,true,true,false,false,false,false],[0,3,8],7⟩,⟨#[false,true,false,false,false,true,true,true,true,false,false,false],[0,2],7⟩,⟨#[true,true,true,true,true,true,false,false,false,false,false,false],[6,9],6⟩,⟨#[true,true,true,true,true,false,false,false,false,true,false,false],[5,10],6⟩,⟨#[true,true,true,true,false,true,true,false,false,false,false,false],[4,7,9],6⟩,⟨#[true,true,true,true,false,true,false,false,false,true,false,false],[4,6],6⟩,⟨#[true,true,true,false,false,true,true,true,false,false,false,false],[3,8,9],6⟩,⟨#[true,true,true,false,false,true,true,false,false,true,false,false],[3,7],6⟩,⟨#[true,true,false,false,false,true,true,true,true,false,false,false],[2,9],6⟩,⟨#[true,true,false,false,false,true,true,true,false,true,false,false],[2,8],6⟩,⟨#[true,false,false,false,false,true,true,true,true,true,false,false],[1],6⟩,⟨#[false,true,true,true,true,true,true,false,false,false,false,false],[0,7],6⟩,⟨#[false,true,true,true,false,true,true,true,false,false,false,false],[0,4,8],6⟩,⟨#[false,true,true,false,false,true,true,true,true,false,false,false],[0,3],6⟩,⟨#[true,true,true,true,true,true,true,false,false,false,false,false],[7,9],5⟩,⟨#[true,true,true,true,true,true,false,false,false,true,false,false],[6,10],5⟩,⟨#[true,true,true,true,true,false,false,false,false,true,true,false],[5],5⟩,⟨#[true,true,true,true,false,true,true,true,false,false,false,false],[4,8,9],5⟩,⟨#[true,true,true,true,false,true,true,false,false,true,false,false],[4,7],5⟩,⟨#[true,true,true,false,false,true,true,true,true,false,false,false],[3,9],5⟩,⟨#[true,true,true,false,false,true,true,true,false,true,false,false],[3,8],5⟩,⟨#[true,true,false,false,false,true,true,true,true,true,false,false],[2],5⟩,⟨#[false,true,true,true,true,true,true,true,false,false,false,false],[0,8],5⟩,⟨#[false,true,true,true,false,true,true,true,true,false,false,false],[0,4],5⟩,⟨#[true,true,true,true,true,true,true,true,false,false,false,false],[8,9],4⟩,⟨#[true,true,true,true,true,true,true,false,false,true,false,false],[7,10],4⟩,⟨#[true,true,true,true,true,true,false,false,false,true,true,false],[6],4⟩,⟨#[true,true,true,true,false,true,true,true,true,false,false,false],[4,9],4⟩,⟨#[true,true,true,true,false,true,true,true,false,true,false,false],[4,8],4⟩,⟨#[true,true,true,false,false,true,true,true,true,true,false,false],[3],4⟩,⟨#[false,true,true,true,true,true,true,true,true,false,false,false],[0],4⟩,⟨#[true,true,true,true,true,true,true,true,true,false,false,false],[9],3⟩,⟨#[true,true,true,true,true,true,true,true,false,true,false,false],[8,10],3⟩,⟨#[true,true,true,true,true,true,true,false,false,true,true,false],[7],3⟩,⟨#[true,true,true,true,false,true,true,true,true,true,false,false],[4],3⟩,⟨#[true,true,true,true,true,true,true,true,true,true,false,false],[10],2⟩,⟨#[true,true,true,true,true,true,true,true,false,true,true,false],[8],2⟩,⟨#[true,true,true,true,true,true,true,true,true,true,true,false],[11],1⟩,⟨#[true,true,true,true,true,true,true,true,true,true,true,true],[],0⟩]
def pp7_J (D:Int)(r:RS):List Bool->Unit->PS
 | [b0,b1,b2,b3,b4,b5,b6,b7,b8,b9,b10,b11],d=>⟨(cd (andn b0 b9) (31,.agg [vI 0,vB false,vI 0,vS ByteArray.empty,vNil,vNil]) (cd (andn b1 b2) (32,.ptr 23 0) (cd (andn b2 b3) (33,.ptr 23 0) (cd (andn b3 b4) (34,.ptr 23 7) (cd (andn b4 b10) (35,vI r.place) (cd (andn b5 b6) (36,.ptr 23 0) (cd (andn b6 b7) (37,.ptr 23 0) (cd (andn b7 b8) (38,.ptr 23 8) (cd (andn b8 b11) (39,vI r.code) (cd b10 (5,vI r.place) (cd b11 (6,vI r.code) [(4,.ptr 0 0),(7,.ptr 23 0)]))))))))))),[(23,.box 69 (.ptr 18 0::rdC D r)),(0,.box 33 [vI 0,vB false,vI 0,vS ByteArray.empty,vNil,vNil])],[],24,0⟩
 |_,_=>⟨[],[],[],0,0⟩
def pp12_J (D:Int)(r:RS):List Bool->Unit->PS
 | [b0,b1,b2,b3,b4,b5,b6,b7,b8,b9,b10,b11],d=>⟨(cd (andn b0 b9) (63,.agg [vI 0,vB false,vI 0,vS ByteArray.empty,vNil,vNil]) (cd (andn b1 b2) (64,.ptr 23 0) (cd (andn b2 b3) (65,.ptr 23 0) (cd (andn b3 b4) (66,.ptr 23 7) (cd (andn b4 b10) (67,vI r.place) (cd (andn b5 b6) (68,.ptr 23 0) (cd (andn b6 b7) (69,.ptr 23 0) (cd (andn b7 b8) (70,.ptr 23 8) (cd (andn b8 b11) (71,vI r.code) (cd b10 (5,vI r.place) (cd b11 (6,vI r.code) [(4,.ptr 0 0),(7,.ptr 23 0)]))))))))))),[(23,.box 69 (.ptr 18 0::rdC D r)),(0,.box 33 [vI 0,vB false,vI 0,vS ByteArray.empty,vNil,vNil])],[],24,0⟩
 |_,_=>⟨[],[],[],0,0⟩
theorem ev_np (st:PS):st.ev (.const (.pointer none))=some (.val (.pointer none)):=rfl
def NewQ (s:ByteArray)(r:PV)(st:PS):Prop:=r = .ptr 18 0/\∃nt',15<=nt'/\st=⟨[],[(18,.box 94 [vS s,vI 0]),(0,.box 33 [vI 0,vB false,vI 0,vS ByteArray.empty,vNil,vNil])],[],18+1,nt'⟩
set_option maxHeartbeats 4000000 in
theorem new_ok (s:ByteArray):OkI Tryz.prog 27 [vS s] ⟨[],[(0,.box 33 [vI 0,vB false,vI 0,vS ByteArray.empty,vNil,vNil])],[],15,15⟩ (NewQ s):=by
 refine OkI.of_pwp (by kernel_rfl) Tryz.func27 rfl (by kernel_rfl) (by kernel_rfl) ?_
 simp -implicitDefEqProofs (disch:=omega) only[go_sem,simprocAttr,ev_np]
 refine⟨⟨[],[(18,.box 94 [vS s,vI 0]),(0,.box 33 [vI 0,vB false,vI 0,vS ByteArray.empty,vNil,vNil])],[],18+1,15⟩,⟨rfl,15,Nat.le_refl _,rfl⟩,?_⟩
 constructor<;>simp only[go_sem,simprocAttr,decide_eq_true_eq]<;>try ((repeat' apply And.intro)<;>first|rfl|omega|(congr 3; omega)|(congr 2; omega))
set_option maxHeartbeats 64000000 in
theorem parse_ok6 (s:ByteArray)(hs:s.size<=140737488351232)(d:Int)(hd : -9223372036854775808<=d/\d<=9223372036854775807):Ok Tryz.prog 11 [vS s,vI d] (parseR (parseA s d)):=by
 refine Ok.of_pwpB (by kernel_rfl) Tryz.func11 rfl (by kernel_rfl) (by kernel_rfl) (bar:=bar2 7 1000 (bar2 12 1000 noBar)) ?_
 generalize hF:parseA s d=F
 unfold parseA at hF
 have hb:∀e p,e≠0->parseR (.bad e p) = .tup [.agg [vI 0,vB false,vI 0,vS ByteArray.empty,.sl [],.sl []],vI p,vI e]:=fun e p he=>by
  unfold parseR An.bad
  simp only[if_neg he]
  simp[vZero,cellsV,V.kind,V.b,V.n,V.s,V.items,V.keys,encV_nil,encT_nil]
 by_cases h0:d<0
 ·rw[if_pos (.inl h0)]at hF
  rw[<-hF,hb _ _ (by decide)]
  simp -implicitDefEqProofs (disch:=omega) only[go_sem,simprocAttr,str_one,dropH,inL,decide_eq_true h0]
  try rfl
 by_cases h64:64<d
 ·rw[if_pos (.inr h64)]at hF
  rw[<-hF,hb _ _ (by decide)]
  simp -implicitDefEqProofs (disch:=omega) only[go_sem,simprocAttr,str_one,dropH,inL,decide_eq_false h0,decide_eq_true h64]
  try rfl
 rw[if_neg (by omega)]at hF
 by_cases hl:16384<s.size
 ·rw[if_pos hl]at hF
  rw[<-hF,hb _ _ (by decide)]
  simp -implicitDefEqProofs (disch:=omega) only[go_sem,simprocAttr,str_one,dropH,inL,decide_eq_false h0,decide_eq_false h64,decide_eq_true (show(16384:Int)<(s.size:Int) by omega)]
  try rfl
 rw[if_neg hl]at hF
 obtain⟨k,rfl⟩:∃k:Nat,d=k:=⟨d.toNat,by omega⟩
 rw[Int.toNat_natCast]at hF
 simp -implicitDefEqProofs (disch:=omega) only[go_sem,simprocAttr,str_one,dropH,inL,decide_eq_false h0,decide_eq_false h64,decide_eq_false (show ¬(16384:Int)<(s.size:Int) by omega)]
 refine CallOk.ofI (new_ok s) rfl rfl rfl rfl ?_
 rintro r1 st' ⟨rfl,nt1,q1,rfl⟩
 have c1:=rd_next s k ⟨tk0,0,0,0⟩ (Nat.zero_le _) (by omega)
 simp -implicitDefEqProofs (disch:=omega) only[go_sem,simprocAttr,str_one,dropH,inL]
 refine CallOk.ofI (c1.at (st:=⟨[],_,_,_,_⟩) 23 18 (by decide) (by simp) (by simp) rfl (fun _ _=>rfl) (by rfl) (by rfl)) rfl rfl rfl rfl ?_
 rintro r1 st' ⟨_,_,rfl,nt2,q2,rfl⟩
 simp only at q2 ⊢
 unfold nxtB nxtR
 simp only
 by_cases n1:nE s 0=0
 rotate_left
 ·rw[if_neg n1,decide_eq_false n1]
  rw[rV_err n1]at hF
  rw[if_pos (show(An.bad (nE s 0) (nP s 0)).code≠0 from n1)]at hF
  rw[<-hF]
  show _
  have hb1:=hb (nE s 0) (nP s 0) n1
  have hb2:parseR (.bad (An.bad (nE s 0) (nP s 0)).code (An.bad (nE s 0) (nP s 0)).place)=_:=hb1
  rw[hb2]
  have hr:(((nP s 0:Nat):Int),nE s 0)=((⟨tk0,nQ s 0,nP s 0,nE s 0⟩:RS).place,(⟨tk0,nQ s 0,nP s 0,nE s 0⟩:RS).code):=rfl
  simp -implicitDefEqProofs (disch:=omega) only[go_sem,simprocAttr,str_one,dropH,inL]
  refine p_tab2 (by decide) ?_
  refine p_tableJ (by decide) tab_pp7 (by kernel_rfl) (Unit) (pp7_J k ⟨tk0,nQ s 0,nP s 0,nE s 0⟩) (fun _ _=>True) () [false,false,false,false,false,false,false,false,false,false,false,false] [true,true,true,true,true,true,true,true,true,true,true,true] rfl rfl trivial ?_ ?_ ?_
  ·simp only[pp7_J]
   constructor<;>simp only[go_sem,simprocAttr,decide_eq_true_eq]<;>try ((repeat' apply And.intro)<;>first|rfl|omega|(congr 3; omega)|(congr 2; omega))
  ·rintro⟨⟩ hd
   simp only[pp7_J]at hd ⊢
   simp -implicitDefEqProofs (disch:=omega) only[go_sem,simprocAttr,str_one,dropH,inL]
   try rfl
  intro get arr hget
  obtain⟨g0,g1,g2,g3,g4,g5,g6,g7,g8,g9,g10,g11⟩:get 0=_/\get 1=_/\get 2=_/\get 3=_/\get 4=_/\get 5=_/\get 6=_/\get 7=_/\get 8=_/\get 9=_/\get 10=_/\get 11=_:=⟨hget 0,hget 1,hget 2,hget 3,hget 4,hget 5,hget 6,hget 7,hget 8,hget 9,hget 10,hget 11⟩
  simp only[List.getElem?_cons_zero,List.getElem?_cons_succ]at g0 g1 g2 g3 g4 g5 g6 g7 g8 g9 g10 g11
  clear hget
  simp only[tab_pp7,allE,allL,and_true,List.set_cons_zero,List.set_cons_succ]
  repeat' apply And.intro
  all_goals
   rintro⟨⟩ hd
   simp only[g0,g1,g2,g3,g4,g5,g6,g7,g8,g9,g10,g11,b_some,pp7_J]at hd ⊢
   clear g0 g1 g2 g3 g4 g5 g6 g7 g8 g9 g10 g11
   refine .inl ?_
   simp -implicitDefEqProofs (disch:=omega) only[go_sem,simprocAttr,str_one,dropH,inL]
   first|refine⟨(),trivial,?_⟩|refine⟨(),?_⟩|skip
   constructor<;>simp only[go_sem,simprocAttr,decide_eq_true_eq]<;>try ((repeat' apply And.intro)<;>first|rfl|omega|(congr 3; omega)|(congr 2; omega))
 rw[if_pos n1,decide_eq_true n1]
 have cv:=rd_all s (by omega) k (by omega) (by omega) k 0 (by omega) (by omega) 0 (Nat.zero_le _) n1 0 0
 have ao:=rV_ok s k 0 (Nat.zero_le _)
 have pu:=rV_pure s k 0
 generalize rV s k 0=x at *
 simp -implicitDefEqProofs (disch:=omega) only[go_sem,simprocAttr,str_one,dropH,inL]
 refine CallOk.ofI (cv.at (st:=⟨[],_,_,_,_⟩) 23 18 (by decide) (by simp) (by simp) rfl (fun x _=>vpR_lt x) (by rfl) (by rfl)) rfl rfl rfl rfl ?_
 rintro r1 st' ⟨⟨v,vb,r⟩,hv,rfl,nt3,q3,rfl⟩
 simp only at q3 hv ⊢
 have hvb:=hv.b
 simp only at hvb
 subst hvb
 by_cases e1:(fin s x).code=0
 rotate_left
 ·rw[decide_eq_false e1]
  obtain⟨e3,e4⟩:=hv.no e1
  simp only at e3 e4
  have hF2:parseR F = .tup [.agg [vI 0,vB false,vI 0,vS ByteArray.empty,.sl [],.sl []],vI r.place,vI r.code]:=by
   rw[e3,e4,<-hF]
   unfold fin at e1 ⊢
   by_cases e5:x.code≠0
   ·rw[if_pos e5,if_pos e5]
    exact hb _ _ e5
   ·rw[if_neg e5]at e1 ⊢
    rw[if_neg e5]
    by_cases e6:nE s x.at_≠0
    ·rw[if_pos e6,if_pos e6]
     exact hb _ _ e6
    ·rw[if_neg e6]at e1; exact absurd e1 e5
  rw[hF2]
  simp -implicitDefEqProofs (disch:=omega) only[go_sem,simprocAttr,str_one,dropH,inL]
  refine p_tab2 (by decide) ?_
  refine p_tableJ (by decide) tab_pp7 (by kernel_rfl) (Unit) (pp12_J k r) (fun _ _=>True) () [false,false,false,false,false,false,false,false,false,false,false,false] [true,true,true,true,true,true,true,true,true,true,true,true] rfl rfl trivial ?_ ?_ ?_
  ·simp only[pp12_J]
   constructor<;>simp only[go_sem,simprocAttr,decide_eq_true_eq]<;>try ((repeat' apply And.intro)<;>first|rfl|omega|(congr 3; omega)|(congr 2; omega))
  ·rintro⟨⟩ hd
   simp only[pp12_J]at hd ⊢
   simp -implicitDefEqProofs (disch:=omega) only[go_sem,simprocAttr,str_one,dropH,inL]
   try rfl
  intro get arr hget
  obtain⟨g0,g1,g2,g3,g4,g5,g6,g7,g8,g9,g10,g11⟩:get 0=_/\get 1=_/\get 2=_/\get 3=_/\get 4=_/\get 5=_/\get 6=_/\get 7=_/\get 8=_/\get 9=_/\get 10=_/\get 11=_:=⟨hget 0,hget 1,hget 2,hget 3,hget 4,hget 5,hget 6,hget 7,hget 8,hget 9,hget 10,hget 11⟩
  simp only[List.getElem?_cons_zero,List.getElem?_cons_succ]at g0 g1 g2 g3 g4 g5 g6 g7 g8 g9 g10 g11
  clear hget
  simp only[tab_pp7,allE,allL,and_true,List.set_cons_zero,List.set_cons_succ]
  repeat' apply And.intro
  all_goals
   rintro⟨⟩ hd
   simp only[g0,g1,g2,g3,g4,g5,g6,g7,g8,g9,g10,g11,b_some,pp12_J]at hd ⊢
   clear g0 g1 g2 g3 g4 g5 g6 g7 g8 g9 g10 g11
   refine .inl ?_
   simp -implicitDefEqProofs (disch:=omega) only[go_sem,simprocAttr,str_one,dropH,inL]
   first|refine⟨(),trivial,?_⟩|refine⟨(),?_⟩|skip
   constructor<;>simp only[go_sem,simprocAttr,decide_eq_true_eq]<;>try ((repeat' apply And.intro)<;>first|rfl|omega|(congr 3; omega)|(congr 2; omega))
 obtain⟨e3,e4,e5⟩:=hv.ok e1
 simp only at e3 e4 e5
 have e6:x.code=0:=by
  by_cases h:x.code=0
  ·exact h
  ·unfold fin at e1; rw[if_pos h]at e1; exact absurd e1 h
 have e7:nE s x.at_=0:=by
  by_cases h:nE s x.at_=0
  ·exact h
  ·unfold fin at e1; rw[if_neg (fun h=>h e6),if_pos h]at e1; exact absurd e1 h
 have e8:fin s x=x:=by unfold fin; rw[if_neg (fun h=>h e6),if_neg (fun h=>h e7)]
 rw[e8]at e3 e4 e5
 rw[if_neg (fun h=>h e6),if_neg (fun h=>h e7)]at hF
 rw[decide_eq_true e1]
 obtain⟨tk',i',pl',co'⟩:=r
 simp only at e4 e5
 subst e4 e5 e3
 by_cases k3:(nT s x.at_).kind=0
 ·rw[if_neg (fun h=>h k3)]at hF
  subst hF
  simp -implicitDefEqProofs (disch:=omega) only[go_sem,simprocAttr,str_one,dropH,inL,k3]
  rfl
 ·rw[if_pos k3]at hF
  subst hF
  rw[hb _ _ (by decide)]
  have cf:=rd_fail s k ⟨nT s x.at_,nQ s x.at_,pl',co'⟩ (nT s x.at_).at_ 1
  simp -implicitDefEqProofs (disch:=omega) only[go_sem,simprocAttr,str_one,dropH,inL,decide_eq_false k3]
  refine CallOk.ofI (cf.at (st:=⟨[],_,_,_,_⟩) 23 18 (by decide) (by simp) (by simp) rfl (fun _ _=>rfl) (by rfl) (by rfl)) rfl rfl rfl rfl ?_
  rintro r1 st' ⟨_,_,rfl,nt4,q4,rfl⟩
  simp only at q4 ⊢
  simp -implicitDefEqProofs (disch:=omega) only[go_sem,simprocAttr,str_one,dropH,inL]
  refine p_tab2 (by decide) ?_
  refine p_tableJ (by decide) tab_pp7 (by kernel_rfl) (Unit) (pp12_J k ⟨nT s x.at_,nQ s x.at_,(nT s x.at_).at_,1⟩) (fun _ _=>True) () [false,false,false,false,false,false,false,false,false,false,false,false] [true,true,true,true,true,true,true,true,true,true,true,true] rfl rfl trivial ?_ ?_ ?_
  ·simp only[pp12_J]
   constructor<;>simp only[go_sem,simprocAttr,decide_eq_true_eq]<;>try ((repeat' apply And.intro)<;>first|rfl|omega|(congr 3; omega)|(congr 2; omega))
  ·rintro⟨⟩ hd
   simp only[pp12_J]at hd ⊢
   simp -implicitDefEqProofs (disch:=omega) only[go_sem,simprocAttr,str_one,dropH,inL]
   try rfl
  intro get arr hget
  obtain⟨g0,g1,g2,g3,g4,g5,g6,g7,g8,g9,g10,g11⟩:get 0=_/\get 1=_/\get 2=_/\get 3=_/\get 4=_/\get 5=_/\get 6=_/\get 7=_/\get 8=_/\get 9=_/\get 10=_/\get 11=_:=⟨hget 0,hget 1,hget 2,hget 3,hget 4,hget 5,hget 6,hget 7,hget 8,hget 9,hget 10,hget 11⟩
  simp only[List.getElem?_cons_zero,List.getElem?_cons_succ]at g0 g1 g2 g3 g4 g5 g6 g7 g8 g9 g10 g11
  clear hget
  simp only[tab_pp7,allE,allL,and_true,List.set_cons_zero,List.set_cons_succ]
  repeat' apply And.intro
  all_goals
   rintro⟨⟩ hd
   simp only[g0,g1,g2,g3,g4,g5,g6,g7,g8,g9,g10,g11,b_some,pp12_J]at hd ⊢
   clear g0 g1 g2 g3 g4 g5 g6 g7 g8 g9 g10 g11
   refine .inl ?_
   simp -implicitDefEqProofs (disch:=omega) only[go_sem,simprocAttr,str_one,dropH,inL]
   first|refine⟨(),trivial,?_⟩|refine⟨(),?_⟩|skip
   constructor<;>simp only[go_sem,simprocAttr,decide_eq_true_eq]<;>try ((repeat' apply And.intro)<;>first|rfl|omega|(congr 3; omega)|(congr 2; omega))
end Go.Proofs.YtcgmpcbkndpmbaaGreatDoor
