/-
  Contracts and plain laws on the way to the statement; each says its own conditions.
-/
import Derived.Test.YtcgmpcbkndpmbaaGreatDoorGE3
import Derived.Lib.ParseIntB
import Derived.Test.YtcgmpcbkndpmbaaGreatDoorGE5
import Derived.Lib.AppendIntMem
import Derived.Lib.AtoiErrMem
import Derived.Test.YtcgmpcbkndpmbaaGreatDoorGE4
import Derived.Lib.DecodeN
import Derived.Laws.RangeAny
import Derived.Lib.RuneCountTail
import Derived.Lib.QuoteLoop
section
section
/-
 Contracts and plain laws on the way to the statement; each says its own conditions.
-/
open Go Go.Proofs Go.Pw
namespace Go.Proofs.YtcgmpcbkndpmbaaGreatDoor
set_option maxRecDepth 4000
set_option linter.unusedSimpArgs false
set_option linter.unusedVariables false
attribute [local go_sem] Nat.le_refl Tryz.results100 Tryz.results101 Tryz.results26 Tryz.results39 Tryz.results58 Tryz.results60 Tryz.results79 Tryz.results80 Tryz.results81 Tryz.results82 encI_len encI_take
def lessTo (a b:List Int):Nat->Bool
 |0=>false
 |i+1=>if a.getD i 0≠b.getD i 0 then decide (a.getD i 0<b.getD i 0) else lessTo a b i
def lessF (a b:List Int):Bool:=if a.length≠b.length then decide (a.length<b.length) else lessTo a b a.length
set_option maxHeartbeats 1000000 in
theorem less_ok (a b:List Int)(ha:a.length<=1000000)(hb:b.length<=1000000):Ok Tryz.prog 101 [.sl (encI a),.sl (encI b)] (vB (lessF a b)):=by
 refine Ok.of_pwp (by kernel_rfl) Tryz.func101 rfl (by kernel_rfl) (by kernel_rfl) ?_
 unfold lessF
 simp -implicitDefEqProofs (disch:=omega) only[go_sem,simprocAttr, ↓ix_enc]
 with_reducible refine ifK_nsplit (fun _=>?_) (fun _=>?_)
 ·simp -implicitDefEqProofs (disch:=omega) only[go_sem,simprocAttr, ↓ix_enc]
  rw[if_pos (by omega)]
  simp
 ·rw[if_neg (by omega)]
  simp -implicitDefEqProofs (disch:=omega) only[go_sem,simprocAttr, ↓ix_enc]
  have key:∀n,n+1<=a.length->lessTo a b (n+1)=if a.getD n 0≠b.getD n 0 then decide (a.getD n 0<b.getD n 0) else lessTo a b n:=fun n _=>rfl
  refine p_loop (ι:={ i:Int // -1<=i/\i<a.length/\lessTo a b a.length=lessTo a b (i+1).toNat }) (fun i=>⟨[(0,.sl (encI a)),(1,.sl (encI b)),(4,vB false),(5,vI i.1)],[],[],0,0⟩) (fun i=>(i.1+1).toNat)
   ⟨(a.length:Int)-1,by omega,by omega,by congr 1; omega⟩ ?_ ?_
  ·constructor<;>simp only[go_sem,simprocAttr]
  ·rintro⟨i,h0,h1,h2⟩
   simp -implicitDefEqProofs (disch:=omega) only[go_sem,simprocAttr, ↓ix_enc]
   with_reducible refine ifK_split (fun _=>?_) (fun _=>?_)
   ·have e:=key i.toNat (by omega)
    rw[show i.toNat+1=(i+1).toNat by omega,<-h2]at e
    simp -implicitDefEqProofs (disch:=omega) only[go_sem,simprocAttr, ↓ix_enc]
    with_reducible refine ifK_nsplit (fun hne=>?_) (fun heq=>?_)
    ·simp -implicitDefEqProofs (disch:=omega) only[go_sem,simprocAttr, ↓ix_enc]
     rw[e,if_pos hne]
    ·simp -implicitDefEqProofs (disch:=omega) only[go_sem,simprocAttr, ↓ix_enc]
     refine⟨⟨i-1,by omega,by omega,?_⟩,by simp only[]; omega,?_⟩
     ·rw[e,if_neg (by simpa using heq)]; congr 1; omega
     ·constructor<;>simp only[go_sem,simprocAttr]
   ·simp -implicitDefEqProofs (disch:=omega) only[go_sem,simprocAttr, ↓ix_enc]
    rw[h2,show(i+1).toNat=0 by omega]; rfl
end Go.Proofs.YtcgmpcbkndpmbaaGreatDoor
end
section
open Go Go.Proofs Go.Pw
namespace Go.Proofs.YtcgmpcbkndpmbaaGreatDoor
set_option maxRecDepth 4000
set_option linter.unusedSimpArgs false
set_option linter.unusedVariables false
attribute [local go_sem] Nat.le_refl Tryz.results100 Tryz.results101 Tryz.results26 Tryz.results39 Tryz.results58 Tryz.results60 Tryz.results79 Tryz.results80 Tryz.results81 Tryz.results82 encI_len encI_take
def cleanTo (a:List Int):Nat->Nat
 |0=>0
 |i+1=>if a.getD i 0=0 then cleanTo a i else i+1
set_option maxHeartbeats 1000000 in
theorem clean_ok (b:Bool)(a:List Int)(ha:a.length<=1000000):Ok Tryz.prog 79 [.agg [vB b,.sl (encI a)]] (.agg [vB (b&&decide (0<cleanTo a a.length)),.sl (encI (a.take (cleanTo a a.length)))]):=by
 refine Ok.of_pwp (by kernel_rfl) Tryz.func79 rfl (by kernel_rfl) (by kernel_rfl) ?_
 have key:∀n,cleanTo a (n+1)=if a.getD n 0=0 then cleanTo a n else n+1:=fun n=>rfl
 simp -implicitDefEqProofs (disch:=omega) only[go_sem,simprocAttr, ↓ix_enc]
 refine p_loop (ι:={ i:Int // 0<=i/\i<=a.length/\cleanTo a a.length=cleanTo a i.toNat }) (fun i=>⟨[(3,vI i.1),(2,.ptr 1 0),(1,.ptr 0 0)],[(1,.box 62 [vB false,.val (.slice none 0 0)]),(0,.box 62 [vB b,.sl (encI a)])],[],2,0⟩) (fun i=>i.1.toNat)
   ⟨(a.length:Int),by omega,by omega,by congr 1⟩ ?_ ?_
 ·constructor<;>simp only[go_sem,simprocAttr]
 ·rintro⟨i,h0,h1,h2⟩
  cases b
  all_goals
   simp -implicitDefEqProofs (disch:=omega) only[go_sem,simprocAttr, ↓ix_enc]
   with_reducible refine ifK_split (fun _=>?_) (fun _=>?_)
   ·have e:=key (i-1).toNat
    rw[show(i-1).toNat+1=i.toNat by omega,<-h2]at e
    simp -implicitDefEqProofs (disch:=omega) only[go_sem,simprocAttr, ↓ix_enc]
    with_reducible refine ifK_split (fun heq=>?_) (fun hne=>?_)
    ·simp -implicitDefEqProofs (disch:=omega) only[go_sem,simprocAttr, ↓ix_enc]
     refine⟨⟨i-1,by omega,by omega,?_⟩,by simp only[]; omega,?_⟩
     ·rw[e,if_pos heq]
     ·constructor<;>simp only[go_sem,simprocAttr]
    ·simp -implicitDefEqProofs (disch:=omega) only[go_sem,simprocAttr, ↓ix_enc]
     rw[e,if_neg hne]
     have:decide (0<i.toNat)=decide (0<i):=decide_eq_decide.2 (by omega)
     simp[this]
   ·simp -implicitDefEqProofs (disch:=omega) only[go_sem,simprocAttr, ↓ix_enc]
    rw[h2,show i.toNat=0 by omega]
    have:decide (0<i)=false:=decide_eq_false (by omega)
    simp[this,cleanTo]
end Go.Proofs.YtcgmpcbkndpmbaaGreatDoor
end
section
open Go Go.Proofs Go.Pw
namespace Go.Proofs.YtcgmpcbkndpmbaaGreatDoor
set_option maxRecDepth 4000
set_option linter.unusedSimpArgs false
set_option linter.unusedVariables false
attribute [local go_sem] Nat.le_refl Tryz.results100 Tryz.results101 Tryz.results26 Tryz.results39 Tryz.results58 Tryz.results60 Tryz.results79 Tryz.results80 Tryz.results81 Tryz.results82 encI_len encI_take
def figs (n:Nat):List Int:=if h:n=0 then[] else(n%10000:Nat)::figs (n/10000)
def repN (z:Int):PV:= .agg [vB (decide (z<0)),.sl (encI (figs z.natAbs))]
theorem figs_len:∀(k N:Nat),N<10000^k->(figs N).length<=k
 |0,N,h=>by
  have:N=0:=by simpa using h
  subst this
  unfold figs
  simp
 |k+1,N,h=>by
  unfold figs
  split
  ·simp
  ·have:=figs_len k (N/10000) (by rw[Nat.pow_succ]at h; omega)
   simp only[List.length_cons]
   omega
theorem figs_step (N:Nat)(h:N≠0):figs N=((N%10000:Nat):Int)::figs (N/10000):=by
 rw[figs,dif_neg h]
def ofS (below:Bool)(m:Int):List Int->PS
 | []=>⟨[(0,vI m),(2,.ptr 0 0),(3,.ptr 4 0)],[(4,.box 62 [vB below,.val (.slice none 0 0)]),(0,.box 62 [vB false,.val (.slice none 0 0)])],[],5,6⟩
 |x::r=>⟨[(0,vI m),(2,.ptr 0 0),(3,.ptr 4 0)],[(4,.box 62 [vB below,.row 18 (encI (x::r))]),(0,.box 62 [vB false,.val (.slice none 0 0)])],[(18,⟨3,1,(x::r).length⟩)],5,19⟩
theorem of_dig (m:Int)(h : -9223372036854775808<=m)(h':m<=9223372036854775807):(if IntKind.i64.wrap (0-m.tmod 10000)>m.tmod 10000 then IntKind.i64.wrap (0-m.tmod 10000) else m.tmod 10000)=((m.natAbs%10000:Nat):Int):=by
 have:m.tmod 10000=if 0<=m then m%10000 else -((-m)%10000):=by
  split
  ·exact Int.tmod_eq_emod_of_nonneg (by assumption)
  ·rw[<-Int.tmod_eq_emod_of_nonneg (by omega),Int.neg_tmod]; omega
 rw[this]
 split<;>rw[wrap64 (by omega) (by omega)]<;>omega
theorem of_div (m:Int):(m.tdiv 10000).natAbs=m.natAbs/10000:=by
 rw[Int.natAbs_tdiv]; rfl
set_option maxHeartbeats 1000000 in
theorem of_ok (n:Int)(h1 : -9223372036854775808<=n)(h2:n<=9223372036854775807):Ok Tryz.prog 26 [vI n] (repN n):=by
 refine Ok.of_pwp (by kernel_rfl) Tryz.func26 rfl (by kernel_rfl) (by kernel_rfl) ?_
 have hl:(figs n.natAbs).length<=5:=figs_len 5 _ (by omega)
 simp -implicitDefEqProofs (disch:=omega) only[go_sem,simprocAttr, ↓ix_enc,tmodE,tdivE]
 refine p_loop (ι:={ p:Int×List Int // -9223372036854775808<=p.1/\p.1<=9223372036854775807/\figs n.natAbs=p.2++figs p.1.natAbs }) (fun p=>ofS (decide (n<0)) p.1.1 p.1.2) (fun p=>p.1.1.natAbs)
   ⟨(n,[]),h1,h2,rfl⟩ ?_ ?_
 ·simp only[ofS]
  constructor<;>simp only[go_sem,simprocAttr]
 ·rintro⟨⟨m,xs⟩,k1,k2,k3⟩
  simp only at k1 k2 k3
  have hlen:=congrArg List.length k3
  rw[List.length_append]at hlen
  have hq:=of_div m
  have hw:IntKind.i64.wrap (m.tdiv 10000)=m.tdiv 10000:=wrap64 (by omega) (by omega)
  cases xs with
  |nil=>
   simp only[ofS]
   simp -implicitDefEqProofs (disch:=omega) only[go_sem,simprocAttr, ↓ix_enc,tmodE,tdivE]
   with_reducible refine ifK_nsplit (fun hne=>?_) (fun heq=>?_)
   ·simp -implicitDefEqProofs (disch:=omega) only[go_sem,simprocAttr, ↓ix_enc,tmodE,tdivE]
    simp only[of_dig m k1 k2,hw,encI_one]
    refine⟨⟨(m.tdiv 10000,[((m.natAbs%10000:Nat):Int)]),by simp only[]; omega,by simp only[]; omega,?_⟩,by simp only[]; omega,?_⟩
    ·rw[k3,figs_step m.natAbs (by omega),hq]; rfl
    ·simp only[List.length_nil,Nat.zero_add]
     constructor<;>simp only[go_sem,simprocAttr]
   ·simp -implicitDefEqProofs (disch:=omega) only[go_sem,simprocAttr, ↓ix_enc,tmodE,tdivE]
    subst heq
    rw[repN,k3]
    simp[figs,encI]
  |cons x r=>
   simp only[List.length_cons]at hlen
   simp only[ofS]
   simp -implicitDefEqProofs (disch:=omega) only[go_sem,simprocAttr, ↓ix_enc,tmodE,tdivE]
   with_reducible refine ifK_nsplit (fun hne=>?_) (fun heq=>?_)
   ·simp -implicitDefEqProofs (disch:=omega) only[go_sem,simprocAttr, ↓ix_enc,tmodE,tdivE]
    simp only[of_dig m k1 k2,hw,encI_one,encI_app,List.cons_append]
    refine⟨⟨(m.tdiv 10000,(x::r)++[((m.natAbs%10000:Nat):Int)]),by simp only[]; omega,by simp only[]; omega,?_⟩,by simp only[]; omega,?_⟩
    ·rw[k3,figs_step m.natAbs (by omega),hq]; simp
    ·simp only[List.cons_append,List.length_append,List.length_singleton]
     constructor<;>simp only[go_sem,simprocAttr]
   ·simp -implicitDefEqProofs (disch:=omega) only[go_sem,simprocAttr, ↓ix_enc,tmodE,tdivE]
    subst heq
    rw[repN,k3]
    simp[figs]
def fits (z:Int):Prop:= -9223372036854775808<=z/\z<=9223372036854775807
instance (z:Int):Decidable (fits z):=by unfold fits; infer_instance
abbrev two (n e:Int):PV:= .tup [vI n,vI e]
end Go.Proofs.YtcgmpcbkndpmbaaGreatDoor
end
section
open Go Go.Proofs Go.Pw
namespace Go.Proofs.YtcgmpcbkndpmbaaGreatDoor
set_option maxRecDepth 4000
set_option linter.unusedSimpArgs false
set_option linter.unusedVariables false
attribute [local go_sem] Nat.le_refl Tryz.results100 Tryz.results101 Tryz.results26 Tryz.results39 Tryz.results58 Tryz.results60 Tryz.results79 Tryz.results80 Tryz.results81 Tryz.results82 encI_len encI_take
def carry (f:Int):Int×Int:=if 10000<=f then(f-10000,1) else if f<0 then(f+10000, -1) else(f,0)
def bothG (a b:List Int)(s:Int):Nat->Nat->Int->List Int×Int
 |0,_,o=>([],o)
 |k+1,i,o=>
  let c:=carry (o+a.getD i 0+s*b.getD i 0)
  let r:=bothG a b s k (i+1) c.2
  (c.1::r.1,r.2)
def bothF (a b:List Int)(s:Int):List Int:=
 let r:=bothG a b s (max a.length b.length) 0 0
 if 0<r.2 then r.1++[r.2] else r.1
def Digs (a:List Int):Prop:=∀x∈a,0<=x/\x<=9999
theorem Digs.get {a:List Int}(h:Digs a)(i:Nat):0<=a.getD i 0/\a.getD i 0<=9999:=by
 rw[List.getD_eq_getElem?_getD]
 cases hx:a[i]? with
 |none=>simp
 |some x=>exact h x (List.mem_of_getElem? hx)
def bothS (a b:List Int)(s:Int)(i o:Int)(k:Nat):List Int->PS
 | []=>⟨[(0,.sl (encI a)),(1,.sl (encI b)),(2,vI s),(7,.val (.slice none 0 0)),(8,vI o),(9,vI i)],[],[],0,4⟩
 |x::r=>⟨[(0,.sl (encI a)),(1,.sl (encI b)),(2,vI s),(7,.row k (encI (x::r))),(8,vI o),(9,vI i)],[],[(k,⟨3,1,(x::r).length⟩)],0,k+1⟩
theorem bothG_step (a b:List Int)(s:Int)(N i:Nat)(o:Int)(h:i<N):bothG a b s (N-i) i o=((carry (o+a.getD i 0+s*b.getD i 0)).1::(bothG a b s (N-(i+1)) (i+1) (carry (o+a.getD i 0+s*b.getD i 0)).2).1,(bothG a b s (N-(i+1)) (i+1) (carry (o+a.getD i 0+s*b.getD i 0)).2).2):=by
 rw[show N-i=(N-(i+1))+1 by omega]
 rfl
theorem getD_none {a:List Int}{i:Nat}(h:a.length<=i):a.getD i 0=0:=by
 rw[List.getD_eq_getElem?_getD,List.getElem?_eq_none h]; rfl
structure BothI (a b:List Int) (s:Int) (N:Nat) where
 i:Int
 o:Int
 xs:List Int
 k:Nat
 k1:0<=i
 k2:i<=N
 k3 : -1<=o
 k4:o<=1
 k5:xs.length=i.toNat
 k6:bothG a b s N 0 0=(xs++(bothG a b s (N-i.toNat) i.toNat o).1,(bothG a b s (N-i.toNat) i.toNat o).2)
theorem carry_range (f:Int) : -1<=(carry f).2/\(carry f).2<=1:=by
 unfold carry
 split
 ·exact⟨by simp only[]; omega,by simp only[]; omega⟩
 ·split<;>exact⟨by simp only[]; omega,by simp only[]; omega⟩
theorem both_next {a b:List Int}{s:Int}{N:Nat}(J:BothI a b s N)(hlt:J.i<N){st:PS}{k:Nat}{R:List (List PV)}{d o' i':Int}(h7:lkp st.env 7=some (.row k R))(h8:lkp st.env 8=some (vI o'))(h9:lkp st.env 9=some (vI i'))
  (h0:lkp st.env 0=some (.sl (encI a))) (h1:lkp st.env 1=some (.sl (encI b))) (h2:lkp st.env 2=some (vI s)) (hR:R=encI (J.xs++[d])) (ht:lkp st.toks k=some ⟨3,1,J.xs.length+1⟩) (hn:k+1<=st.nt) (hi:i'=J.i+1)
  (hc:carry (J.o+a.getD J.i.toNat 0+s*b.getD J.i.toNat 0)=(d,o')):∃j:BothI a b s N,N-j.i.toNat<N-J.i.toNat/\Weak (0,0) st (bothS a b s j.i j.o j.k j.xs):=by
 obtain⟨i,o,xs,kk,k1,k2,k3,k4,k5,k6⟩:=J
 simp only at hlt hR ht hi hc ⊢
 have st1:=bothG_step a b s N i.toNat o (by omega)
 rw[hc]at st1
 have cr:=carry_range (o+a.getD i.toNat 0+s*b.getD i.toNat 0)
 rw[hc]at cr
 have e1:(i+1).toNat=i.toNat+1:=by omega
 refine⟨⟨i',o',xs++[d],k,by omega,by omega,cr.1,cr.2,by rw[hi,e1]; simp[k5],by rw[k6,st1,hi,e1]; simp⟩,by simp only; omega,?_⟩
 subst hR
 have key:∀ys:List Int,ys≠[]->bothS a b s i' o' k ys=⟨[(0,.sl (encI a)),(1,.sl (encI b)),(2,vI s),(7,.row k (encI ys)),(8,vI o'),(9,vI i')],[],[(k,⟨3,1,ys.length⟩)],0,k+1⟩:=fun ys h=>by
  cases ys with
  |nil=>exact absurd rfl h
  |cons x r=>rfl
 simp only
 rw[key _ (by simp)]
 refine⟨?_,?_,?_,Nat.zero_le _,hn,Nat.zero_le _,Nat.zero_le _⟩
 ·simp only[mem_cons_,mem_nil_,h0,h1,h2,h7,h8,h9,hold_eq,b_some,frz_self,PV.lt,and_true,true_and,decide_eq_true_eq,Nat.lt_succ_self]
 ·simp only[mem_nil_]
 ·simp only[mem_cons_,mem_nil_,ht,List.length_append,List.length_singleton,and_true,true_and,Nat.lt_succ_self]
theorem both_end {a b:List Int}{s:Int}{N:Nat}(J:BothI a b s N)(h:J.i=N):bothG a b s N 0 0=(J.xs,J.o):=by
 rw[J.k6,h]
 simp[bothG]
set_option maxHeartbeats 8000000 in
theorem both_ok (a b:List Int)(s:Int)(hs:s=1∨s = -1)(hA:Digs a)(hB:Digs b)(la:a.length<=100000)(lb:b.length<=100000):Ok Tryz.prog 100 [.sl (encI a),.sl (encI b),vI s] (.sl (encI (bothF a b s))):=by
 refine Ok.of_pwp (by kernel_rfl) Tryz.func100 rfl (by kernel_rfl) (by kernel_rfl) ?_
 simp -implicitDefEqProofs (disch:=omega) only[go_sem,simprocAttr, ↓ix_enc]
 obtain⟨N,hN⟩:∃N,N=max a.length b.length:=⟨_,rfl⟩
 have hN':a.length<=N/\b.length<=N/\(N=a.length∨N=b.length):=by omega
 unfold bothF
 rw[<-hN]
 refine p_loop (fun p:BothI a b s N=>bothS a b s p.i p.o p.k p.xs) (fun p=>(N-p.i.toNat)) ⟨0,0,[],0,by decide,by omega,by decide,by decide,rfl,by simp⟩ ?_ ?_
 ·simp only[bothS]
  constructor<;>simp only[go_sem,simprocAttr]
 ·intro J
  have k1:=J.k1
  have k2:=J.k2
  have k3:=J.k3
  have k4:=J.k4
  have k5:=J.k5
  have k6:=J.k6
  have gA:=hA.get J.i.toNat
  have gB:=hB.get J.i.toNat
  have nA:¬J.i<(a.length:Int)->a.getD J.i.toNat 0=0:=fun h=>getD_none (by omega)
  have nB:¬J.i<(b.length:Int)->b.getD J.i.toNat 0=0:=fun h=>getD_none (by omega)
  have hb:∃st,bothS a b s J.i J.o J.k J.xs=st:=⟨_,rfl⟩
  cases hx:J.xs with
  |nil=>
   have e:bothS a b s J.i J.o J.k []=⟨[(0,.sl (encI a)),(1,.sl (encI b)),(2,vI s),(7,.val (.slice none 0 0)),(8,vI J.o),(9,vI J.i)],[],[],0,4⟩:=rfl
   simp only[hx]
   rw[e]
   rcases hs with rfl|rfl
   all_goals simp -implicitDefEqProofs (disch:=omega) only[go_sem,simprocAttr, ↓ix_enc]
   all_goals repeat' ((first
    |with_reducible refine ifK_split (fun _=>?_) (fun _=>?_)
    |with_reducible refine ifK_nsplit (fun _=>?_) (fun _=>?_)) <;>
    try simp -implicitDefEqProofs (disch:=omega) only[go_sem,simprocAttr, ↓ix_enc])
   all_goals first
    |(refine both_next J (by omega) rfl rfl rfl rfl rfl rfl (by rw[hx]; rfl) (by rw[hx]; rfl) (by simp only[]; omega) rfl ?_
      unfold carry
      first
       |(rw[if_pos (by omega)]<;>(congr 1; omega))
       |(rw[if_neg (by omega),if_pos (by omega)]<;>(congr 1; omega))
       |(rw[if_neg (by omega),if_neg (by omega)]<;>(congr 1; omega)))
    |(rw[both_end J (by omega),hx]; simp only[]; rw[if_pos (by assumption)]; rfl)
    |(rw[both_end J (by omega),hx]; simp only[]; rw[if_neg (by assumption)]; rfl)
  |cons x r=>
   have e:bothS a b s J.i J.o J.k (x::r)=⟨[(0,.sl (encI a)),(1,.sl (encI b)),(2,vI s),(7,.row J.k (encI (x::r))),(8,vI J.o),(9,vI J.i)],[],[(J.k,⟨3,1,(x::r).length⟩)],0,J.k+1⟩:=rfl
   have k7:=k5
   rw[hx]at k7
   simp only[List.length_cons]at k7
   simp only[hx]
   rw[e]
   rcases hs with rfl|rfl
   all_goals simp -implicitDefEqProofs (disch:=omega) only[go_sem,simprocAttr, ↓ix_enc]
   all_goals repeat' ((first
    |with_reducible refine ifK_split (fun _=>?_) (fun _=>?_)
    |with_reducible refine ifK_nsplit (fun _=>?_) (fun _=>?_)) <;>
    try simp -implicitDefEqProofs (disch:=omega) only[go_sem,simprocAttr, ↓ix_enc])
   all_goals first
    |(refine both_next J (by omega) rfl rfl rfl rfl rfl rfl (by rw[hx]; exact encI_snoc _ _) (by rw[hx]; simp[lkp]) (by simp only[]; omega) rfl ?_
      unfold carry
      first
       |(rw[if_pos (by omega)]<;>(congr 1; omega))
       |(rw[if_neg (by omega),if_pos (by omega)]<;>(congr 1; omega))
       |(rw[if_neg (by omega),if_neg (by omega)]<;>(congr 1; omega)))
    |(rw[both_end J (by omega),hx]; simp only[]; rw[if_pos (by assumption)]; rw[encI_snoc])
    |(rw[both_end J (by omega),hx]; simp only[]; rw[if_neg (by assumption)])
end Go.Proofs.YtcgmpcbkndpmbaaGreatDoor
end
section
open Go Go.Proofs Go.Pw
namespace Go.Proofs.YtcgmpcbkndpmbaaGreatDoor
set_option maxRecDepth 4000
set_option linter.unusedSimpArgs false
set_option linter.unusedVariables false
attribute [local go_sem] Nat.le_refl Tryz.results100 Tryz.results101 Tryz.results26 Tryz.results39 Tryz.results58 Tryz.results60 Tryz.results79 Tryz.results80 Tryz.results81 Tryz.results82 encI_len encI_take
def cleanF (b:Bool)(a:List Int):PV:= .agg [vB (b&&decide (0<cleanTo a a.length)),.sl (encI (a.take (cleanTo a a.length)))]
theorem bothG_len (a b:List Int)(s:Int):∀(k i:Nat)(o:Int),(bothG a b s k i o).1.length=k
 |0,_,_=>rfl
 |k+1,i,o=>by simp[bothG,bothG_len a b s k]
theorem bothF_len (a b:List Int)(s:Int)(la:a.length<=10000)(lb:b.length<=10000):(bothF a b s).length<=10001:=by
 unfold bothF
 have:=bothG_len a b s (max a.length b.length) 0 0
 simp only
 split
 ·rw[List.length_append,this,List.length_singleton]; omega
 ·omega
def addF (x:Bool)(a:List Int)(y:Bool)(b:List Int):PV:=
 if x=y then cleanF x (bothF a b 1) else if lessF a b then cleanF y (bothF b a (-1)) else cleanF x (bothF a b (-1))
set_option maxHeartbeats 1000000 in
theorem add_ok (x:Bool)(a:List Int)(y:Bool)(b:List Int)(hA:Digs a)(hB:Digs b)(la:a.length<=10000)(lb:b.length<=10000):Ok Tryz.prog 80 [.agg [vB x,.sl (encI a)],.agg [vB y,.sl (encI b)]] (addF x a y b):=by
 have l1:=bothF_len a b 1 la lb
 have l2:=bothF_len b a (-1) lb la
 have l3:=bothF_len a b (-1) la lb
 refine Ok.of_pwp (by kernel_rfl) Tryz.func80 rfl (by kernel_rfl) (by kernel_rfl) ?_
 unfold addF
 simp -implicitDefEqProofs (disch:=omega) only[go_sem,simprocAttr, ↓ix_enc]
 with_reducible refine ifK_bsplit (fun h=>?_) (fun h=>?_)
 ·rw[if_pos (by simpa using h)]
  simp -implicitDefEqProofs (disch:=omega) only[go_sem,simprocAttr, ↓ix_enc]
  with_reducible refine CallOk.of (both_ok a b 1 (.inl rfl) hA hB (by omega) (by omega)) rfl ?_
  simp -implicitDefEqProofs (disch:=omega) only[go_sem,simprocAttr, ↓ix_enc]
  with_reducible refine CallOk.of (clean_ok x (bothF a b 1) (by omega)) rfl ?_
  simp -implicitDefEqProofs (disch:=omega) only[go_sem,simprocAttr, ↓ix_enc]
  rfl
 ·rw[if_neg (by simpa using h)]
  simp -implicitDefEqProofs (disch:=omega) only[go_sem,simprocAttr, ↓ix_enc]
  with_reducible refine CallOk.of (less_ok a b (by omega) (by omega)) rfl ?_
  simp -implicitDefEqProofs (disch:=omega) only[go_sem,simprocAttr, ↓ix_enc]
  with_reducible refine ifK_bsplit (fun h=>?_) (fun h=>?_)
  ·rw[if_pos h]
   simp -implicitDefEqProofs (disch:=omega) only[go_sem,simprocAttr, ↓ix_enc]
   with_reducible refine CallOk.of (both_ok b a (-1) (.inr rfl) hB hA (by omega) (by omega)) rfl ?_
   simp -implicitDefEqProofs (disch:=omega) only[go_sem,simprocAttr, ↓ix_enc]
   with_reducible refine CallOk.of (clean_ok y (bothF b a (-1)) (by omega)) rfl ?_
   simp -implicitDefEqProofs (disch:=omega) only[go_sem,simprocAttr, ↓ix_enc]
   rfl
  ·rw[if_neg (by simp[h])]
   simp -implicitDefEqProofs (disch:=omega) only[go_sem,simprocAttr, ↓ix_enc]
   with_reducible refine CallOk.of (both_ok a b (-1) (.inr rfl) hA hB (by omega) (by omega)) rfl ?_
   simp -implicitDefEqProofs (disch:=omega) only[go_sem,simprocAttr, ↓ix_enc]
   with_reducible refine CallOk.of (clean_ok x (bothF a b (-1)) (by omega)) rfl ?_
   simp -implicitDefEqProofs (disch:=omega) only[go_sem,simprocAttr, ↓ix_enc]
   rfl
end Go.Proofs.YtcgmpcbkndpmbaaGreatDoor
end
section
open Go Go.Proofs Go.Pw
namespace Go.Proofs.YtcgmpcbkndpmbaaGreatDoor
set_option maxRecDepth 4000
set_option linter.unusedSimpArgs false
set_option linter.unusedVariables false
attribute [local go_sem] Nat.le_refl Tryz.results100 Tryz.results101 Tryz.results26 Tryz.results39 Tryz.results58 Tryz.results60 Tryz.results79 Tryz.results80 Tryz.results81 Tryz.results82 encI_len encI_take
set_option maxHeartbeats 1000000 in
theorem neg28_ok (x:Bool)(a:List Int)(la:a.length<=10000):Ok Tryz.prog 58 [.agg [vB x,.sl (encI a)]] (cleanF (!x) a):=by
 refine Ok.of_pwp (by kernel_rfl) Tryz.func58 rfl (by kernel_rfl) (by kernel_rfl) ?_
 simp -implicitDefEqProofs (disch:=omega) only[go_sem,simprocAttr, ↓ix_enc]
 with_reducible refine CallOk.of (clean_ok (!x) a (by omega)) rfl ?_
 simp -implicitDefEqProofs (disch:=omega) only[go_sem,simprocAttr, ↓ix_enc]
 rfl
end Go.Proofs.YtcgmpcbkndpmbaaGreatDoor
end
section
open Go Go.Proofs Go.Pw
namespace Go.Proofs.YtcgmpcbkndpmbaaGreatDoor
set_option maxRecDepth 4000
set_option linter.unusedSimpArgs false
set_option linter.unusedVariables false
attribute [local go_sem] Nat.le_refl Tryz.results100 Tryz.results101 Tryz.results26 Tryz.results39 Tryz.results58 Tryz.results60 Tryz.results79 Tryz.results80 Tryz.results81 Tryz.results82 encI_len encI_take
def valF:List Int->Int
 | []=>0
 |x::r=>x+10000*valF r
theorem figs_zero:figs 0=[]:=by rw[figs]; simp
theorem figs_val (n:Nat):valF (figs n)=n:=by
 induction n using Nat.strongRecOn with
 |_ n ih=>
  by_cases h:n=0
  ·subst h; rw[figs_zero]; rfl
  ·rw[figs_step n h,valF,ih (n/10000) (by omega)]
   omega
theorem figs_digs (n:Nat):Digs (figs n):=by
 induction n using Nat.strongRecOn with
 |_ n ih=>
  by_cases h:n=0
  ·subst h; rw[figs_zero]; intro x hx; cases hx
  ·rw[figs_step n h]
   intro x hx
   rcases List.mem_cons.1 hx with rfl|hx
   ·omega
   ·exact ih (n/10000) (by omega) x hx
theorem valF_nonneg:∀{l:List Int},Digs l->0<=valF l
 | [],_=>by decide
 |x::r,h=>by
  have h1:=h x (by simp)
  have h2:=valF_nonneg (l:=r) (fun y hy=>h y (by simp[hy]))
  rw[valF]
  omega
theorem cleanTo_cons (x:Int)(r:List Int):∀k,cleanTo (x::r) (k+1)=if cleanTo r k=0 then(if x=0 then 0 else 1) else cleanTo r k+1
 |0=>by simp[cleanTo]
 |k+1=>by
  have ih:=cleanTo_cons x r k
  rw[cleanTo]
  by_cases h:r.getD k 0=0
  ·have h':(x::r).getD (k+1) 0=0:=by simpa using h
   rw[if_pos h',ih]
   simp only[cleanTo,if_pos h]
  ·have h':¬(x::r).getD (k+1) 0=0:=by simpa using h
   rw[if_neg h']
   simp only[cleanTo,if_neg h]
   simp
theorem canon:∀{l:List Int},Digs l->figs (valF l).toNat=l.take (cleanTo l l.length)
 | [],_=>by simp[valF,figs_zero]
 |x::r,h=>by
  have h1:=h x (by simp)
  have hr:Digs r:=fun y hy=>h y (by simp[hy])
  have h2:=valF_nonneg hr
  have ih:=canon hr
  rw[List.length_cons,cleanTo_cons,valF]
  have z:cleanTo r r.length=0↔valF r=0:=by
   constructor
   ·intro e
    rw[e]at ih
    have:=figs_val (valF r).toNat
    rw[ih]at this
    simp[valF]at this
    omega
   ·intro e
    rw[e]at ih
    simp only[Int.toNat_zero,figs_zero]at ih
    have hlen:=congrArg List.length ih
    rw[List.length_take]at hlen
    have hle:∀k,cleanTo r k<=k:=fun k=>by
     induction k with
     |zero=>exact Nat.le_refl _
     |succ k ih=>rw[cleanTo]; split<;>omega
    have:=hle r.length
    simp at hlen
    omega
  by_cases hv:valF r=0
  ·rw[if_pos (z.2 hv),hv]
   by_cases hx:x=0
   ·subst hx; simp[figs_zero]
   ·rw[if_neg hx,figs_step _ (by omega)]
    simp only[Int.mul_zero,Int.add_zero,List.take_succ_cons,List.take_zero]
    rw[show x.toNat/10000=0 by omega,figs_zero,show((x.toNat%10000:Nat):Int)=x by omega]
  ·rw[if_neg (fun e=>hv (z.1 e)),figs_step _ (by omega),List.take_succ_cons,<-ih]
   rw[show(((x+10000*valF r).toNat%10000:Nat):Int)=x by omega,show(x+10000*valF r).toNat/10000=(valF r).toNat by omega]
end Go.Proofs.YtcgmpcbkndpmbaaGreatDoor
end
section
open Go Go.Proofs Go.Pw
namespace Go.Proofs.YtcgmpcbkndpmbaaGreatDoor
set_option maxRecDepth 4000
set_option linter.unusedSimpArgs false
set_option linter.unusedVariables false
attribute [local go_sem] Nat.le_refl Tryz.results100 Tryz.results101 Tryz.results26 Tryz.results39 Tryz.results58 Tryz.results60 Tryz.results79 Tryz.results80 Tryz.results81 Tryz.results82 encI_len encI_take
theorem valF_drop (a:List Int)(i:Nat):valF (a.drop i)=a.getD i 0+10000*valF (a.drop (i+1)):=by
 by_cases h:i<a.length
 ·rw[List.drop_eq_getElem_cons h,valF,List.getD_eq_getElem?_getD,List.getElem?_eq_getElem h]; rfl
 ·rw[List.drop_eq_nil_of_le (by omega),List.drop_eq_nil_of_le (by omega),getD_none (by omega)]; rfl
theorem carry_val (f:Int):(carry f).1+10000*(carry f).2=f:=by
 unfold carry
 split
 ·simp only; omega
 ·split<;>(simp only; omega)
theorem carry_dig (f:Int)(h : -10000<=f)(h':f<=19999):0<=(carry f).1/\(carry f).1<=9999:=by
 unfold carry
 split
 ·simp only; omega
 ·split<;>(simp only; omega)
theorem bothG_val (a b:List Int)(s:Int):∀(k i:Nat)(o:Int),a.length<=i+k->b.length<=i+k ->
  valF (bothG a b s k i o).1+10000^k*(bothG a b s k i o).2=o+valF (a.drop i)+s*valF (b.drop i)
 |0,i,o,ha,hb=>by
  rw[List.drop_eq_nil_of_le (by omega),List.drop_eq_nil_of_le (by omega)]
  simp[bothG,valF]
 |k+1,i,o,ha,hb=>by
  have ih:=bothG_val a b s k (i+1) (carry (o+a.getD i 0+s*b.getD i 0)).2 (by omega) (by omega)
  have hc:=carry_val (o+a.getD i 0+s*b.getD i 0)
  rw[valF_drop a i,valF_drop b i]
  simp only[bothG,valF]
  generalize bothG a b s k (i+1) (carry (o+a.getD i 0+s*b.getD i 0)).2=r at *
  have e1:(10000:Int)^(k+1)*r.2=10000*(10000^k*r.2):=by rw[Int.pow_succ,Int.mul_comm (10000^k) 10000,Int.mul_assoc]
  have e2:s*(b.getD i 0+10000*valF (b.drop (i+1)))=s*b.getD i 0+10000*(s*valF (b.drop (i+1))):=by
   rw[Int.mul_add,<-Int.mul_assoc,Int.mul_comm s 10000,Int.mul_assoc]
  rw[e1,e2]
  omega
theorem bothG_digs (a b:List Int)(s:Int)(hs:s=1∨s = -1)(hA:Digs a)(hB:Digs b):∀(k i:Nat)(o:Int), -1<=o->o<=1->Digs (bothG a b s k i o).1 /\ -1<=(bothG a b s k i o).2/\(bothG a b s k i o).2<=1
 |0,i,o,h1,h2=>⟨fun x hx=>by simp[bothG]at hx,h1,h2⟩
 |k+1,i,o,h1,h2=>by
  have cr:=carry_range (o+a.getD i 0+s*b.getD i 0)
  have ih:=bothG_digs a b s hs hA hB k (i+1) _ cr.1 cr.2
  have gA:=hA.get i
  have gB:=hB.get i
  have cd:=carry_dig (o+a.getD i 0+s*b.getD i 0) (by rcases hs with rfl|rfl<;>omega) (by rcases hs with rfl|rfl<;>omega)
  refine⟨fun x hx=>?_,ih.2.1,ih.2.2⟩
  simp only[bothG]at hx
  rcases List.mem_cons.1 hx with rfl|hx
  ·exact cd
  ·exact ih.1 x hx
end Go.Proofs.YtcgmpcbkndpmbaaGreatDoor
end
section
open Go Go.Proofs Go.Pw
namespace Go.Proofs.YtcgmpcbkndpmbaaGreatDoor
set_option maxRecDepth 4000
set_option linter.unusedSimpArgs false
set_option linter.unusedVariables false
attribute [local go_sem] Nat.le_refl Tryz.results100 Tryz.results101 Tryz.results26 Tryz.results39 Tryz.results58 Tryz.results60 Tryz.results79 Tryz.results80 Tryz.results81 Tryz.results82 encI_len encI_take
theorem pow_pos' (k:Nat):(0:Int)<10000^k:=Int.pow_pos (by decide)
theorem valF_lt:∀{l:List Int},Digs l->valF l<10000^l.length
 | [],_=>by decide
 |x::r,h=>by
  have h1:=h x (by simp)
  have ih:=valF_lt (l:=r) (fun y hy=>h y (by simp[hy]))
  rw[valF,List.length_cons,Int.pow_succ]
  omega
theorem valF_app:∀(l:List Int)(x:Int),valF (l++[x])=valF l+10000^l.length*x
 | [],x=>by simp[valF]
 |y::r,x=>by
  rw[List.cons_append,valF,valF,valF_app r x,List.length_cons,Int.pow_succ,Int.mul_comm (10000^r.length) 10000,Int.mul_assoc]
  omega
theorem pow_le' {j k:Nat}(h:j<=k):(10000:Int)^j<=10000^k:=by
 obtain⟨d,rfl⟩:=Nat.exists_eq_add_of_le h
 induction d with
 |zero=>exact Int.le_refl _
 |succ d ih=>
  have:=ih (by omega)
  have:=pow_pos' (j+d)
  rw[<-Nat.add_assoc,Int.pow_succ]
  omega
theorem bothF_add {a b:List Int}(hA:Digs a)(hB:Digs b):valF (bothF a b 1)=valF a+valF b/\Digs (bothF a b 1):=by
 have hv:=bothG_val a b 1 (max a.length b.length) 0 0 (by omega) (by omega)
 have hd:=bothG_digs a b 1 (.inl rfl) hA hB (max a.length b.length) 0 0 (by decide) (by decide)
 have hl:=bothG_len a b 1 (max a.length b.length) 0 0
 have hlt:=valF_lt hd.1
 rw[hl]at hlt
 have nA:=valF_nonneg hA
 have nB:=valF_nonneg hB
 simp only[List.drop_zero,Int.one_mul,Int.zero_add]at hv
 unfold bothF
 generalize bothG a b 1 (max a.length b.length) 0 0=r at *
 obtain⟨l,c⟩:=r
 simp only at *
 have hc:c = -1∨c=0∨c=1:=by omega
 rcases hc with rfl|rfl|rfl
 ·omega
 ·rw[if_neg (by decide)]
  exact⟨by omega,hd.1⟩
 ·rw[if_pos (by decide),valF_app,hl]
  refine⟨by omega,fun x hx=>?_⟩
  rcases List.mem_append.1 hx with hx|hx
  ·exact hd.1 x hx
  ·obtain rfl:=List.mem_singleton.1 hx
   decide
theorem bothF_sub {a b:List Int}(hA:Digs a)(hB:Digs b)(h:valF b<=valF a):valF (bothF a b (-1))=valF a-valF b/\Digs (bothF a b (-1)):=by
 have hv:=bothG_val a b (-1) (max a.length b.length) 0 0 (by omega) (by omega)
 have hd:=bothG_digs a b (-1) (.inr rfl) hA hB (max a.length b.length) 0 0 (by decide) (by decide)
 have hl:=bothG_len a b (-1) (max a.length b.length) 0 0
 have hlt:=valF_lt hd.1
 rw[hl]at hlt
 have nD:=valF_nonneg hd.1
 have nB:=valF_nonneg hB
 have la:=valF_lt hA
 have lp:(10000:Int)^a.length<=10000^(max a.length b.length):=pow_le' (by omega)
 simp only[List.drop_zero,Int.zero_add]at hv
 unfold bothF
 generalize bothG a b (-1) (max a.length b.length) 0 0=r at *
 obtain⟨l,c⟩:=r
 simp only at *
 have hc:c = -1∨c=0∨c=1:=by omega
 rcases hc with rfl|rfl|rfl
 ·omega
 ·rw[if_neg (by decide)]
  exact⟨by omega,hd.1⟩
 ·omega
end Go.Proofs.YtcgmpcbkndpmbaaGreatDoor
end
section
open Go Go.Proofs Go.Pw
namespace Go.Proofs.YtcgmpcbkndpmbaaGreatDoor
set_option maxRecDepth 4000
set_option linter.unusedSimpArgs false
set_option linter.unusedVariables false
attribute [local go_sem] Nat.le_refl Tryz.results100 Tryz.results101 Tryz.results26 Tryz.results39 Tryz.results58 Tryz.results60 Tryz.results79 Tryz.results80 Tryz.results81 Tryz.results82 encI_len encI_take
theorem Digs.take {a:List Int}(h:Digs a)(k:Nat):Digs (a.take k):=fun x hx=>h x (List.mem_of_mem_take hx)
theorem take_snoc {a:List Int}{k:Nat}(h:k<a.length):a.take (k+1)=a.take k++[a.getD k 0]:=by
 rw[List.take_succ_eq_append_getElem h,List.getD_eq_getElem?_getD,List.getElem?_eq_getElem h]; rfl
theorem top_lt {p x y u v:Int}(hu:0<=u)(hu':u<p)(hv:0<=v)(hv':v<p)(h:x<y):u+p*x<v+p*y:=by
 have h1:p*(x+1)<=p*y:=Int.mul_le_mul_of_nonneg_left (by omega) (by omega)
 rw[Int.mul_add,Int.mul_one]at h1
 omega
theorem lessTo_val {a b:List Int}(hA:Digs a)(hB:Digs b):∀k,k<=a.length->k<=b.length->lessTo a b k=decide (valF (a.take k)<valF (b.take k))
 |0,_,_=>by simp[lessTo,valF]
 |k+1,ha,hb=>by
  have ih:=lessTo_val hA hB k (by omega) (by omega)
  have la:=valF_lt (hA.take k)
  have lb:=valF_lt (hB.take k)
  have na:=valF_nonneg (hA.take k)
  have nb:=valF_nonneg (hB.take k)
  rw[take_snoc (by omega),take_snoc (by omega),valF_app,valF_app]
  rw[List.length_take,Nat.min_eq_left (by omega)]at la lb ⊢
  rw[List.length_take,Nat.min_eq_left (by omega)]
  simp only[lessTo]
  by_cases h:a.getD k 0=b.getD k 0
  ·rw[if_neg (by simpa using h),ih,h]
   exact decide_eq_decide.2 (by omega)
  ·rw[if_pos h]
   refine decide_eq_decide.2 ⟨fun h1=>top_lt na la nb lb h1,fun h1=>?_⟩
   rcases Int.lt_or_gt_of_ne h with h2|h2
   ·exact h2
   ·have:=top_lt nb lb na la h2
    omega
theorem figs_len_ge (n:Nat)(h:n≠0):(10000:Int)^((figs n).length-1)<=n:=by
 induction n using Nat.strongRecOn with
 |_ n ih=>
  rw[figs_step n h,List.length_cons]
  by_cases h':n/10000=0
  ·rw[h',figs_zero]; simp; omega
  ·have:=ih (n/10000) (by omega) h'
   have hl:(figs (n/10000)).length≠0:=by rw[figs_step _ h']; simp
   rw[show(figs (n/10000)).length+1-1=((figs (n/10000)).length-1)+1 by omega,Int.pow_succ]
   omega
theorem lessF_figs (m n:Nat):lessF (figs m) (figs n)=decide (m<n):=by
 have lm:=valF_lt (figs_digs m)
 have ln:=valF_lt (figs_digs n)
 rw[figs_val]at lm ln
 unfold lessF
 by_cases h:(figs m).length=(figs n).length
 ·rw[if_neg (by simpa using h),lessTo_val (figs_digs m) (figs_digs n) _ (Nat.le_refl _) (by omega),List.take_length,h,List.take_length,figs_val,figs_val]
  exact decide_eq_decide.2 (by omega)
 ·rw[if_pos h]
  refine decide_eq_decide.2 ⟨fun h1=>?_,fun h1=>?_⟩
  ·have hn:n≠0:=fun e=>by subst e; rw[figs_zero]at h1; simp at h1
   have g:=figs_len_ge n hn
   have p:=pow_le' (j:=(figs m).length) (k:=(figs n).length-1) (by omega)
   omega
  ·apply Decidable.byContradiction
   intro h2
   have hm:m≠0:=fun e=>by
    have e2:(figs m).length=0:=by rw[e,figs_zero]; rfl
    omega
   have g:=figs_len_ge m hm
   have p:=pow_le' (j:=(figs n).length) (k:=(figs m).length-1) (by omega)
   omega
end Go.Proofs.YtcgmpcbkndpmbaaGreatDoor
end
section
open Go Go.Proofs Go.Pw
namespace Go.Proofs.YtcgmpcbkndpmbaaGreatDoor
set_option maxRecDepth 4000
set_option linter.unusedSimpArgs false
set_option linter.unusedVariables false
attribute [local go_sem] Nat.le_refl Tryz.results100 Tryz.results101 Tryz.results26 Tryz.results39 Tryz.results58 Tryz.results60 Tryz.results79 Tryz.results80 Tryz.results81 Tryz.results82 encI_len encI_take
theorem figs_nil (n:Nat):figs n=[]↔n=0:=by
 constructor
 ·intro h
  apply Decidable.byContradiction
  intro hn
  rw[figs_step n hn]at h
  cases h
 ·intro h; subst h; exact figs_zero
theorem figs_pos (n:Nat):0<(figs n).length↔0<n:=by
 have:=figs_nil n
 rw[<-List.length_eq_zero_iff]at this
 omega
theorem clean_rep (b:Bool){l:List Int}(h:Digs l):cleanF b l=repN (if b then -valF l else valF l):=by
 have hv:=valF_nonneg h
 have hc:=canon h
 have hlen:=congrArg List.length hc
 have hle:∀k,cleanTo l k<=k:=fun k=>by
  induction k with
  |zero=>exact Nat.le_refl _
  |succ k ih=>rw[cleanTo]; split<;>omega
 rw[List.length_take,Nat.min_eq_left (hle _)]at hlen
 have hp:=figs_pos (valF l).toNat
 rw[hlen]at hp
 unfold cleanF repN
 rw[<-hc]
 have e:(if b=true then -valF l else valF l).natAbs=(valF l).toNat:=by split<;>omega
 rw[e]
 have e2:(b&&decide (0<cleanTo l l.length))=decide ((if b=true then -valF l else valF l)<0):=by
  cases b
  ·simp; omega
  ·simp only[Bool.true_and,if_true]
   exact decide_eq_decide.2 (by omega)
 rw[e2]
def Fg (k:Nat)(z:Int):Prop:=z.natAbs<10000^k
def Sm (z:Int):Prop:=∃k,k<=9000/\Fg k z
theorem Fg.mono {j k:Nat}{z:Int}(h:Fg j z)(hk:j<=k):Fg k z:=Nat.lt_of_lt_of_le h (Nat.pow_le_pow_right (by decide) hk)
theorem Fg.sm {k:Nat}{z:Int}(h:Fg k z)(hk:k<=9000):Sm z:=⟨k,hk,h⟩
theorem Sm.len {z:Int}(h:Sm z):(figs z.natAbs).length<=9000:=by
 obtain⟨k,h1,h2⟩:=h
 exact Nat.le_trans (figs_len k _ h2) h1
theorem Fg.of_fits {z:Int}(h:fits z):Fg 5 z:=by
 unfold fits at h
 exact Nat.lt_of_le_of_lt (show z.natAbs<=9223372036854775808 by omega) (by decide)
theorem Sm.of_fits {z:Int}(h:fits z):Sm z:=(Fg.of_fits h).sm (by decide)
theorem Fg.add {k:Nat}{x y:Int}(h:Fg k x)(g:Fg k y):Fg (k+1) (x+y):=by
 unfold Fg at *
 rw[Nat.pow_succ]
 omega
theorem Fg.neg {k:Nat}{x:Int}(h:Fg k x):Fg k (-x):=by
 unfold Fg at *
 omega
theorem Fg.mul {j k:Nat}{x y:Int}(h:Fg j x)(g:Fg k y):Fg (j+k) (x*y):=by
 unfold Fg at *
 rw[Int.natAbs_mul,Nat.pow_add]
 exact Nat.mul_lt_mul_of_lt_of_le h (Nat.le_of_lt g) (Nat.pow_pos (by decide))
theorem addF_rep (x y:Int):addF (decide (x<0)) (figs x.natAbs) (decide (y<0)) (figs y.natAbs)=repN (x+y):=by
 have dx:=figs_digs x.natAbs
 have dy:=figs_digs y.natAbs
 have vx:=figs_val x.natAbs
 have vy:=figs_val y.natAbs
 unfold addF
 split
 ·rename_i h
  have h':=decide_eq_decide.1 h
  obtain⟨hv,hd⟩:=bothF_add dx dy
  rw[clean_rep _ hd,hv,vx,vy]
  congr 1
  by_cases hx:x<0<;>simp[hx]<;>omega
 ·rename_i h
  rw[decide_eq_decide]at h
  rw[lessF_figs]
  split
  ·rename_i hl
   simp only[decide_eq_true_eq]at hl
   obtain⟨hv,hd⟩:=bothF_sub dy dx (by omega)
   rw[clean_rep _ hd,hv,vx,vy]
   congr 1
   by_cases hy:y<0<;>simp[hy]<;>omega
  ·rename_i hl
   simp only[decide_eq_true_eq]at hl
   obtain⟨hv,hd⟩:=bothF_sub dx dy (by omega)
   rw[clean_rep _ hd,hv,vx,vy]
   congr 1
   by_cases hx:x<0<;>simp[hx]<;>omega
theorem add_rep (x y:Int)(hx:Sm x)(hy:Sm y):Ok Tryz.prog 80 [repN x,repN y] (repN (x+y)):=by
 have lx:=hx.len
 have ly:=hy.len
 rw[<-addF_rep]
 exact add_ok _ _ _ _ (figs_digs _) (figs_digs _) (by omega) (by omega)
theorem neg_rep (x:Int)(hx:Sm x):Ok Tryz.prog 58 [repN x] (repN (-x)):=by
 have lx:=hx.len
 have e:cleanF (!decide (x<0)) (figs x.natAbs)=repN (-x):=by
  rw[clean_rep _ (figs_digs _),figs_val]
  congr 1
  by_cases h:x<0<;>simp[h]<;>omega
 rw[<-e]
 exact neg28_ok _ _ (by omega)
theorem of_rep (n:Int)(h:fits n):Ok Tryz.prog 26 [vI n] (repN n):=of_ok n h.1 h.2
theorem Sm.neg {x:Int}(h:Sm x):Sm (-x):=by
 obtain⟨k,h1,h2⟩:=h
 exact⟨k,h1,h2.neg⟩
set_option maxHeartbeats 1000000 in
theorem less_rep (x y:Int)(hx:Sm x)(hy:Sm y):Ok Tryz.prog 82 [repN x,repN y] (vB (decide (x<y))):=by
 have e:decide (x + -y<0)=decide (x<y):=decide_eq_decide.2 (by omega)
 have l0:=neg_rep y hy
 have l1:=add_rep x (-y) hx hy.neg
 rw[<-e]
 unfold repN at *
 refine Ok.of_pwp (by kernel_rfl) Tryz.func82 rfl (by kernel_rfl) (by kernel_rfl) ?_
 simp -implicitDefEqProofs (disch:=omega) only[go_sem,simprocAttr, ↓ix_enc]
 with_reducible refine CallOk.of l0 rfl ?_
 simp -implicitDefEqProofs (disch:=omega) only[go_sem,simprocAttr, ↓ix_enc]
 with_reducible refine CallOk.of l1 rfl ?_
 simp -implicitDefEqProofs (disch:=omega) only[go_sem,simprocAttr, ↓ix_enc]
def intTo (a:List Int):Nat->Int
 |0=>0
 |k+1=>intTo a k*10000-a.getD (a.length-(k+1)) 0
theorem vI_eq {a b:Int}(h:a=b):vI a=vI b:=by rw[h]
theorem intTo_val (a:List Int):∀k,k<=a.length->intTo a k = - valF (a.drop (a.length-k))
 |0,_=>by simp[intTo,valF]
 |k+1,h=>by
  rw[intTo,intTo_val a k (by omega),valF_drop a (a.length-(k+1)),show a.length-(k+1)+1=a.length-k by omega]
  omega
theorem valF_ge {a:List Int}(h:Digs a)(i:Nat):0<=valF (a.drop i):=valF_nonneg (fun x hx=>h x (List.mem_of_mem_drop hx))
theorem valF_drop_le {a:List Int}(h:Digs a):∀i,valF (a.drop i)<=valF a
 |0=>by simp
 |i+1=>by
  have ih:=valF_drop_le h i
  have g:=(h.get i).1
  have:=valF_ge h (i+1)
  rw[valF_drop a i]at ih
  omega
set_option maxHeartbeats 1000000 in
theorem int_rep (z:Int)(hz:fits z):Ok Tryz.prog 39 [repN z] (vI z):=by
 have hs:=(Sm.of_fits hz).len
 unfold fits at hz
 have hd:=figs_digs z.natAbs
 have hv:=figs_val z.natAbs
 unfold repN
 generalize figs z.natAbs=a at *
 refine Ok.of_pwp (by kernel_rfl) Tryz.func39 rfl (by kernel_rfl) (by kernel_rfl) ?_
 simp -implicitDefEqProofs (disch:=omega) only[go_sem,simprocAttr, ↓ix_enc]
 refine p_loop (ι:={ p:Int×Int // -1<=p.1/\p.1<a.length/\p.2=intTo a (a.length-(p.1+1).toNat) })
  (fun p=>⟨[(3,vI p.1.2),(4,vI p.1.1),(1,.ptr 0 0)],[(0,.box 62 [vB (decide (z<0)),.sl (encI a)])],[],1,0⟩) (fun p=>(p.1.1+1).toNat)
  ⟨((a.length:Int)-1,0),by simp only; omega,by simp only; omega,by simp only; rw[show a.length-((a.length:Int)-1+1).toNat=0 by omega]; rfl⟩ ?_ ?_
 ·constructor<;>simp only[go_sem,simprocAttr]
 ·rintro⟨⟨i,n⟩,h0,h1,h2⟩
  simp only at h0 h1 h2
  have e1:=intTo_val a (a.length-(i+1).toNat) (by omega)
  have g1:=valF_ge hd (a.length-(a.length-(i+1).toNat))
  have g2:=valF_drop_le hd (a.length-(a.length-(i+1).toNat))
  simp -implicitDefEqProofs (disch:=omega) only[go_sem,simprocAttr, ↓ix_enc]
  with_reducible refine ifK_split (fun _=>?_) (fun _=>?_)
  ·have e2:intTo a (a.length-(i+1-1 ).toNat)=n*10000-a.getD i.toNat 0:=by
    rw[show a.length-(i+1-1).toNat=(a.length-(i+1).toNat)+1 by omega,intTo,<-h2]
    congr 2
    omega
   have e3:=intTo_val a (a.length-(i+1-1).toNat) (by omega)
   have g3:=valF_ge hd (a.length-(a.length-(i+1-1).toNat))
   have g4:=valF_drop_le hd (a.length-(a.length-(i+1-1).toNat))
   have g5:=hd.get i.toNat
   simp -implicitDefEqProofs (disch:=omega) only[go_sem,simprocAttr, ↓ix_enc]
   refine⟨⟨(i-1,n*10000-a.getD i.toNat 0),by simp only; omega,by simp only; omega,?_⟩,by simp only[]; omega,?_⟩
   ·simp only
    rw[<-e2]; congr 1; omega
   ·constructor<;>simp only[go_sem,simprocAttr]
  ·have e4:n = - (z.natAbs:Int):=by
    rw[h2,e1,show a.length-(a.length-(i+1).toNat)=0 by omega,List.drop_zero,hv]
   simp -implicitDefEqProofs (disch:=omega) only[go_sem,simprocAttr, ↓ix_enc]
   with_reducible refine ifK_split (fun _=>?_) (fun _=>?_)
   ·simp -implicitDefEqProofs (disch:=omega) only[go_sem,simprocAttr, ↓ix_enc]
    exact vI_eq (by omega)
   ·simp -implicitDefEqProofs (disch:=omega) only[go_sem,simprocAttr, ↓ix_enc]
    exact vI_eq (by omega)
theorem min_fits:fits (-9223372036854775808):=by decide
theorem max_fits:fits 9223372036854775807:=by decide
set_option maxHeartbeats 1000000 in
theorem fits_rep (z:Int)(hz:Sm z):Ok Tryz.prog 60 [repN z] (vB (decide (fits z))):=by
 have l0:=of_rep _ min_fits
 have l1:=of_rep _ max_fits
 have l2:=less_rep z _ hz (Sm.of_fits min_fits)
 have l3:=less_rep _ z (Sm.of_fits max_fits) hz
 unfold repN at *
 refine Ok.of_pwp (by kernel_rfl) Tryz.func60 rfl (by kernel_rfl) (by kernel_rfl) ?_
 simp -implicitDefEqProofs (disch:=omega) only[go_sem,simprocAttr, ↓ix_enc]
 with_reducible refine CallOk.of l0 rfl ?_
 simp -implicitDefEqProofs (disch:=omega) only[go_sem,simprocAttr, ↓ix_enc]
 with_reducible refine CallOk.of l2 rfl ?_
 simp -implicitDefEqProofs (disch:=omega) only[go_sem,simprocAttr, ↓ix_enc]
 with_reducible refine ifK_nsplit (fun _=>?_) (fun _=>?_)
 ·simp -implicitDefEqProofs (disch:=omega) only[go_sem,simprocAttr, ↓ix_enc]
  with_reducible refine CallOk.of l1 rfl ?_
  simp -implicitDefEqProofs (disch:=omega) only[go_sem,simprocAttr, ↓ix_enc]
  with_reducible refine CallOk.of l3 rfl ?_
  simp -implicitDefEqProofs (disch:=omega) only[go_sem,simprocAttr, ↓ix_enc]
  congr 2
  unfold fits
  rw[<-decide_not]
  exact decide_eq_decide.2 (by omega)
 ·simp -implicitDefEqProofs (disch:=omega) only[go_sem,simprocAttr, ↓ix_enc]
  congr 2
  rw[eq_comm,decide_eq_false_iff_not]
  unfold fits
  omega
end Go.Proofs.YtcgmpcbkndpmbaaGreatDoor
end
section
open Go Go.Proofs Go.Pw
namespace Go.Proofs.YtcgmpcbkndpmbaaGreatDoor
set_option maxRecDepth 4000
set_option linter.unusedSimpArgs false
set_option linter.unusedVariables false
attribute [local go_sem] Nat.le_refl Tryz.results100 Tryz.results101 Tryz.results26 Tryz.results39 Tryz.results58 Tryz.results60 Tryz.results79 Tryz.results80 Tryz.results81 Tryz.results82 encI_len encI_take
theorem mul_sign (a b:Int):(decide (a<0)=decide (b<0)->0<=a*b)/\(decide (a<0)≠decide (b<0)->a*b<=0):=by
 constructor
 ·intro h
  have h':=decide_eq_decide.1 h
  by_cases ha:a<0
  ·exact Int.mul_nonneg_of_nonpos_of_nonpos (by omega) (by omega)
  ·exact Int.mul_nonneg (by omega) (by omega)
 ·intro h
  rw[ne_eq,decide_eq_decide]at h
  by_cases ha:a<0
  ·exact Int.mul_nonpos_of_nonpos_of_nonneg (by omega) (by omega)
  ·exact Int.mul_nonpos_of_nonneg_of_nonpos (by omega) (by omega)
def mulG (a:List Int)(f:Int):Nat->List Int×Int
 |0=>([],0)
 |k+1=>((mulG a f k).1++[(a.getD k 0*f+(mulG a f k).2)%10000],(a.getD k 0*f+(mulG a f k).2)/10000)
theorem valF_append (l m:List Int):valF (l++m)=valF l+10000^l.length*valF m:=by
 induction l with
 |nil=>simp[valF]
 |cons x r ih=>
  rw[List.cons_append,valF,ih,valF,List.length_cons,Int.pow_succ,Int.mul_comm (10000^r.length) 10000,Int.mul_assoc]
  omega
theorem valF_one (x:Int):valF [x]=x:=by simp[valF]
theorem valF_zeros:∀i,valF (List.replicate i (0:Int))=0
 |0=>rfl
 |i+1=>by rw[List.replicate_succ,valF,valF_zeros i]; rfl
theorem mulG_ok {a:List Int}(hA:Digs a){f:Int}(h0:0<=f)(h1:f<=9999):∀k,k<=a.length->(mulG a f k).1.length=k/\Digs (mulG a f k).1/\0<=(mulG a f k).2/\(mulG a f k).2<=9999 /\
  valF (mulG a f k).1+10000^k*(mulG a f k).2=f*valF (a.take k)
 |0,_=>by simp[mulG,valF,Digs]
 |k+1,hk=>by
  obtain⟨g1,g2,g3,g4,g5⟩:=mulG_ok hA h0 h1 k (by omega)
  have gd:=hA.get k
  have hp:0<=a.getD k 0*f:=Int.mul_nonneg gd.1 h0
  have hp2:a.getD k 0*f<=9999*9999:=by
   have i1:a.getD k 0*f<=9999*f:=Int.mul_le_mul_of_nonneg_right gd.2 h0
   omega
  refine⟨by simp[mulG,g1],fun x hx=>?_,by simp only[mulG]; omega,by simp only[mulG]; omega,?_⟩
  ·simp only[mulG]at hx
   rcases List.mem_append.1 hx with hx|hx
   ·exact g2 x hx
   ·obtain rfl:=List.mem_singleton.1 hx
    omega
  ·simp only[mulG]
   rw[take_snoc (by omega),valF_app,valF_append,valF_one,g1,List.length_take,Nat.min_eq_left (by omega),Int.mul_add,<-g5,Int.pow_succ]
   have hd:=Int.emod_add_mul_ediv (a.getD k 0*f+(mulG a f k).2) 10000
   generalize (a.getD k 0*f+(mulG a f k).2)%10000=u at *
   generalize (a.getD k 0*f+(mulG a f k).2)/10000=v at *
   have e1:(10000:Int)^k*10000*v=10000^k*(10000*v):=Int.mul_assoc _ _ _
   have e2:f*(10000^k*a.getD k 0)=10000^k*(a.getD k 0*f):=by rw[Int.mul_comm f,Int.mul_assoc]
   have e3:u+10000*v=a.getD k 0*f+(mulG a f k).2:=hd
   rw[e1,e2,Int.add_assoc,<-Int.mul_add,e3,Int.mul_add]
   omega
def mulRow (a:List Int)(f:Int)(i:Nat):List Int:=List.replicate i 0++(mulG a f a.length).1++[(mulG a f a.length).2]
theorem mulRow_ok {a:List Int}(hA:Digs a){f:Int}(h0:0<=f)(h1:f<=9999)(i:Nat):(mulRow a f i).length=i+a.length+1/\Digs (mulRow a f i)/\valF (mulRow a f i)=10000^i*(f*valF a):=by
 obtain⟨g1,g2,g3,g4,g5⟩:=mulG_ok hA h0 h1 a.length (Nat.le_refl _)
 refine⟨by simp[mulRow,g1]; omega,fun x hx=>?_,?_⟩
 ·simp only[mulRow,List.mem_append,List.mem_replicate,List.mem_singleton]at hx
  rcases hx with(⟨_,rfl⟩|hx)|rfl
  ·decide
  ·exact g2 x hx
  ·exact⟨g3,g4⟩
 ·rw[List.take_length]at g5
  rw[mulRow,List.append_assoc,valF_append,valF_zeros,valF_append,valF_one,g1,List.length_replicate,g5]
  omega
theorem valF_fg {a:List Int}(hA:Digs a):Fg a.length (valF a):=by
 have h1:=valF_nonneg hA
 have h2:=valF_lt hA
 unfold Fg
 have:((10000^a.length:Nat):Int)=(10000:Int)^a.length:=by simp
 omega
def outP:Nat->Int->PV
 |0,_=>vNil
 |_+1,v=> .sl (encI (figs v.natAbs))
theorem fz_outP {i:Nat}{v:Int}(h:i=0->v=0):fz (outP i v)=some (.sl (encI (figs v.natAbs))):=by
 cases i with
 |zero=>rw[h rfl]; simp[outP,fz,figs_zero,encI]
 |succ i=>rfl
theorem outP_lt (a b i:Nat)(v:Int):PV.lt a b (outP i v)=true:=by cases i<;>rfl
theorem fz_vB (b:Bool):fz (vB b)=some (vB b):=rfl
theorem fz_sl (xs:List (List PV)):fz (.sl xs)=some (.sl xs):=rfl
theorem out_fz {i:Nat}{v w:Int}(h0:0<=v)(h:i=0->v=0):fzAs [.agg [vB false,outP i v],repN w]=some [repN v,repN w]:=by
 have e:decide (v<0)=false:=decide_eq_false (by omega)
 simp only[fzAs,fzA,fzL,fz_outP h,fz_vB,fz_sl,repN,e,Option.map]
theorem clean_row {l:List Int}(h:Digs l)(hl:l.length<=1000000):Ok Tryz.prog 79 [.agg [vB false,.sl (encI l)]] (repN (valF l)):=by
 have h1:=clean_ok false l hl
 have h2:=clean_rep false h
 unfold cleanF at h2
 rw[h2]at h1
 exact h1
def mulS (x y:Bool)(a b:List Int)(i:Nat):PS:=
 ⟨[(15,vI i),(14,vI b.length),(5,.ptr 4 0),(4,.ptr 2 0),(3,.ptr 1 0),(2,.ptr 0 0)],
  [(4,.box 62 [vB false,outP i (valF a*valF (b.take i))]),(2,.box 62 [vB false,vNil]),(1,.box 62 [vB y,.sl (encI b)]),(0,.box 62 [vB x,.sl (encI a)])],[],10,10⟩
def mkI (i:Nat):List PV:=List.map (fun i=>[PV.val (Value.int IntKind.i64 0)].getD (i%1) (PV.val Value.nilIface)) (List.range i)
theorem mkI_def (i:Nat):List.map (fun i=>[PV.val (Value.int IntKind.i64 0)].getD (i%1) (PV.val Value.nilIface)) (List.range i)=mkI i:=rfl
theorem mkI_len (i:Nat):(mkI i).length=i:=by simp[mkI]
theorem mkI_eq (i:Nat):mkI i=List.replicate i (vI 0):=by
 unfold mkI
 rw[List.eq_replicate_iff]
 refine⟨by simp,fun b hb=>?_⟩
 obtain⟨j,_,rfl⟩:=List.mem_map.1 hb
 rw[Nat.mod_one]; rfl
theorem mkI_lt (a b:Nat):∀i,PV.ltL a b (mkI i)=true:=fun i=>by
 rw[mkI_eq]
 induction i with
 |zero=>rfl
 |succ i ih=>rw[List.replicate_succ,PV.ltL,ih]; rfl
theorem mkI_chunks (i:Nat):chunks 1 i (mkI i)=encI (List.replicate i 0):=by
 rw[mkI_eq]
 unfold chunks encI
 apply List.ext_getElem?
 intro j
 rw[List.getElem?_map,List.getElem?_map]
 by_cases h:j<i
 ·rw[List.getElem?_range h,List.getElem?_replicate,if_pos h]
  simp only[Option.map_some,Nat.mul_one,List.drop_replicate]
  rw[show i-j=(i-j-1)+1 by omega,List.replicate_succ]
  rfl
 ·rw[List.getElem?_eq_none (by simpa using h),List.getElem?_eq_none (by simpa using h)]
  rfl
theorem fz_encI:∀(l:List Int),fzLL (encI l)=some (encI l)
 | []=>rfl
 |x::r=>by
  have ih:=fz_encI r
  unfold encI at ih ⊢
  rw[List.map_cons,fzLL,ih]
  rfl
theorem encI_all' (l:List Int):(∀x∈encI l,x.length=1)=True:=eq_true (fun x hx=>by
 obtain⟨n,_,rfl⟩:=List.mem_map.1 hx
 rfl)
def mulT (x y:Bool)(a b:List Int)(i:Nat)(tk:Nat):Nat->PS
 |0=>⟨[(23,vI 0),(22,vI a.length),(8,vI 0),(7,.ms 14 0 i i),(6,vI i),(15,vI i),(14,vI b.length),(5,.ptr 4 0),(4,.ptr 2 0),(3,.ptr 1 0),(2,.ptr 0 0)],
  [(14,.box 3 (mkI i)),(4,.box 62 [vB false,outP i (valF a*valF (b.take i))]),(2,.box 62 [vB false,vNil]),(1,.box 62 [vB y,.sl (encI b)]),(0,.box 62 [vB x,.sl (encI a)])],[],21,21⟩
 |k+1=>⟨[(23,vI (k+1:Nat)),(22,vI a.length),(8,vI (mulG a (b.getD i 0) (k+1)).2),(7,.row tk (encI (List.replicate i 0++(mulG a (b.getD i 0) (k+1)).1))),(6,vI i),(15,vI i),(14,vI b.length),(5,.ptr 4 0),(4,.ptr 2 0),(3,.ptr 1 0),(2,.ptr 0 0)],
  [(4,.box 62 [vB false,outP i (valF a*valF (b.take i))]),(2,.box 62 [vB false,vNil]),(1,.box 62 [vB y,.sl (encI b)]),(0,.box 62 [vB x,.sl (encI a)])],[(tk,⟨3,1,i+(k+1)⟩)],21,tk+1⟩
set_option maxHeartbeats 4000000 in
theorem mul_ok (x y:Bool)(a b:List Int)(hA:Digs a)(hB:Digs b)(la:a.length+b.length<=9000):Ok Tryz.prog 81 [.agg [vB x,.sl (encI a)],.agg [vB y,.sl (encI b)]] (cleanF (!(x==y)) (figs (valF a*valF b).natAbs)):=by
 have va:=valF_nonneg hA
 have hq:Fg (a.length+b.length) (valF a*valF b):=(valF_fg hA).mul (valF_fg hB)
 refine Ok.of_pwp (by kernel_rfl) Tryz.func81 rfl (by kernel_rfl) (by kernel_rfl) ?_
 simp -implicitDefEqProofs (disch:=omega) only[go_sem,simprocAttr, ↓ix_enc,tmodE,tdivE,mkI_len,mkI_chunks,fz_encI,Nat.mul_one,Nat.le_add_right,encI_all',List.length_replicate,Int.toNat_natCast,encI_snoc,mkI_def,List.length_append,Int.natCast_zero]
 refine p_loop (ι:={ i:Nat // i<=b.length }) (fun i=>mulS x y a b i.1) (fun i=>b.length-i.1) ⟨0,Nat.zero_le _⟩ ?_ ?_
 ·simp only[mulS,outP,Int.natCast_zero]
  constructor<;>simp only[go_sem,simprocAttr]
 ·rintro⟨i,hi⟩
  simp only[mulS]
  simp -implicitDefEqProofs (disch:=omega) only[go_sem,simprocAttr, ↓ix_enc,tmodE,tdivE,mkI_len,mkI_chunks,fz_encI,Nat.mul_one,Nat.le_add_right,encI_all',List.length_replicate,Int.toNat_natCast,encI_snoc,mkI_def,List.length_append,Int.natCast_zero]
  with_reducible refine ifK_split (fun hlt=>?_) (fun hge=>?_)
  ·have gB:=hB.get i
   have hlt':i<b.length:=by omega
   have vnn:0<=valF a*valF (b.take i):=Int.mul_nonneg va (valF_nonneg (hB.take i))
   have vz:i=0->valF a*valF (b.take i)=0:=fun e=>by subst e; simp[valF]
   have vstep:valF a*valF (b.take i)+10000^i*(b.getD i 0*valF a)=valF a*valF (b.take (i+1)):=by
    rw[take_snoc hlt',valF_app,List.length_take,Nat.min_eq_left (by omega),Int.mul_add]
    congr 1
    rw[Int.mul_comm (b.getD i 0),<-Int.mul_assoc,Int.mul_comm _ (valF a),Int.mul_assoc]
   have lt1:(b.take i).length<=b.length:=by rw[List.length_take]; omega
   have lt2:(b.take (i+1)).length<=b.length:=by rw[List.length_take]; omega
   have f1:Fg (a.length+b.length) (valF a*valF (b.take i)):=((valF_fg hA).mul (valF_fg (hB.take i))).mono (by omega)
   have f2:Fg (a.length+b.length) (valF a*valF (b.take (i+1))):=((valF_fg hA).mul (valF_fg (hB.take (i+1)))).mono (by omega)
   have wnn:0<=10000^i*(b.getD i 0*valF a):=Int.mul_nonneg (Int.pow_nonneg (by decide)) (Int.mul_nonneg gB.1 va)
   have f3:Fg (a.length+b.length) (10000^i*(b.getD i 0*valF a)):=by unfold Fg at f2 ⊢; omega
   have sm:Sm (valF a*valF (b.take i)):=f1.sm la
   have sm2:Sm (10000^i*(b.getD i 0*valF a)):=f3.sm la
   have vpos:decide (valF a*valF (b.take i)+10000^i*(b.getD i 0*valF a)<0)=false:=decide_eq_false (by omega)
   rw[vstep]at vpos
   simp -implicitDefEqProofs (disch:=omega) only[go_sem,simprocAttr, ↓ix_enc,tmodE,tdivE,mkI_len,mkI_chunks,fz_encI,Nat.mul_one,Nat.le_add_right,encI_all',List.length_replicate,Int.toNat_natCast,encI_snoc,mkI_def,List.length_append,Int.natCast_zero]
   refine p_loop (ι:={ p:Nat×Nat // p.1<=a.length/\20<=p.2 }) (fun p=>mulT x y a b i p.1.2 p.1.1) (fun p=>a.length-p.1.1) ⟨(0,20),Nat.zero_le _,Nat.le_refl _⟩ ?_ ?_
   ·simp only[mulT]
    constructor<;>simp only[go_sem,simprocAttr,decide_eq_true_eq,mkI_lt,outP_lt]<;>try ((repeat' apply And.intro)<;>first|rfl|omega|(congr 3; omega)|(congr 2; omega))
   ·rintro⟨⟨k,tk⟩,hk,htk⟩
    simp only at hk htk ⊢
    obtain⟨g1,g2,g3,g4,g5⟩:=mulG_ok hA gB.1 gB.2 k hk
    have gd:=hA.get k
    have hp:0<=a.getD k 0*b.getD i 0:=Int.mul_nonneg gd.1 gB.1
    have hp2:a.getD k 0*b.getD i 0<=9999*9999:=by
     have i1:a.getD k 0*b.getD i 0<=9999*b.getD i 0:=Int.mul_le_mul_of_nonneg_right gd.2 gB.1
     omega
    cases k with
    |zero=>
     simp only[mulT]
     simp -implicitDefEqProofs (disch:=omega) only[go_sem,simprocAttr, ↓ix_enc,tmodE,tdivE,mkI_len,mkI_chunks,fz_encI,Nat.mul_one,Nat.le_add_right,encI_all',List.length_replicate,Int.toNat_natCast,encI_snoc,mkI_def,List.length_append,Int.natCast_zero]
     with_reducible refine ifK_split (fun hlt2=>?_) (fun hge2=>?_)
     ·simp -implicitDefEqProofs (disch:=omega) only[go_sem,simprocAttr, ↓ix_enc,tmodE,tdivE,mkI_len,mkI_chunks,fz_encI,Nat.mul_one,Nat.le_add_right,encI_all',List.length_replicate,Int.toNat_natCast,encI_snoc,mkI_def,List.length_append,Int.natCast_zero]
      refine⟨⟨(0+1,42),by simp only; omega,by simp only; omega⟩,by simp only; omega,?_⟩
      simp only[mulT,mulG,List.nil_append,Int.add_zero]
      constructor<;>simp only[go_sem,simprocAttr,decide_eq_true_eq,mkI_lt,outP_lt,Int.zero_add,Int.natCast_zero]<;>try ((repeat' apply And.intro)<;>first|rfl|omega|(congr 3; omega)|(congr 2; omega))
     ·simp -implicitDefEqProofs (disch:=omega) only[go_sem,simprocAttr, ↓ix_enc,tmodE,tdivE,mkI_len,mkI_chunks,fz_encI,Nat.mul_one,Nat.le_add_right,encI_all',List.length_replicate,Int.toNat_natCast,encI_snoc,mkI_def,List.length_append,Int.natCast_zero]
      have rw_:=mulRow_ok hA gB.1 gB.2 i
      have ha0:a.length=0:=by omega
      have er:mulRow a (b.getD i 0) i=List.replicate i 0++[0]:=by simp only[mulRow,ha0,mulG,List.append_nil]
      rw[er,ha0]at rw_
      obtain⟨w1,w2,w3⟩:=rw_
      have cr:=clean_row w2 (by omega)
      rw[w3]at cr
      with_reducible refine CallOk.of cr rfl ?_
      simp -implicitDefEqProofs (disch:=omega) only[go_sem,simprocAttr, ↓ix_enc,tmodE,tdivE,mkI_len,mkI_chunks,fz_encI,Nat.mul_one,Nat.le_add_right,encI_all',List.length_replicate,Int.toNat_natCast,encI_snoc,mkI_def,List.length_append,Int.natCast_zero]
      have ar:=add_rep (valF a*valF (b.take i)) (10000^i*(b.getD i 0*valF a)) sm sm2
      with_reducible refine CallOk.of ar (out_fz vnn vz) ?_
      rw[vstep]
      simp only[repN]
      simp -implicitDefEqProofs (disch:=omega) only[go_sem,simprocAttr, ↓ix_enc,tmodE,tdivE,mkI_len,mkI_chunks,fz_encI,Nat.mul_one,Nat.le_add_right,encI_all',List.length_replicate,Int.toNat_natCast,encI_snoc,mkI_def,List.length_append,Int.natCast_zero]
      refine⟨⟨i+1,by omega⟩,by simp only; omega,?_⟩
      simp only[mulS,outP]
      constructor<;>simp only[go_sem,simprocAttr,decide_eq_true_eq,vpos,Int.natCast_add,Int.natCast_one]<;>try ((repeat' apply And.intro)<;>first|rfl|omega|(congr 3; omega)|(congr 2; omega))
    |succ k=>
     simp only[mulT]
     simp -implicitDefEqProofs (disch:=omega) only[go_sem,simprocAttr, ↓ix_enc,tmodE,tdivE,mkI_len,mkI_chunks,fz_encI,Nat.mul_one,Nat.le_add_right,encI_all',List.length_replicate,Int.toNat_natCast,encI_snoc,mkI_def,List.length_append,Int.natCast_zero]
     with_reducible refine ifK_split (fun hlt2=>?_) (fun hge2=>?_)
     ·simp -implicitDefEqProofs (disch:=omega) only[go_sem,simprocAttr, ↓ix_enc,tmodE,tdivE,mkI_len,mkI_chunks,fz_encI,Nat.mul_one,Nat.le_add_right,encI_all',List.length_replicate,Int.toNat_natCast,encI_snoc,mkI_def,List.length_append,Int.natCast_zero]
      have e1:(mulG a (b.getD i 0) (k+1+1)).1=(mulG a (b.getD i 0) (k+1)).1++[(a.getD (k+1) 0*b.getD i 0+(mulG a (b.getD i 0) (k+1)).2)%10000]:=rfl
      have e2:(mulG a (b.getD i 0) (k+1+1)).2=(a.getD (k+1) 0*b.getD i 0+(mulG a (b.getD i 0) (k+1)).2)/10000:=rfl
      refine⟨⟨(k+1+1,tk),by simp only; omega,by simp only; omega⟩,by simp only; omega,?_⟩
      simp only[mulT,e1,e2,<-List.append_assoc,encI_snoc,g1]
      constructor<;>simp only[go_sem,simprocAttr,decide_eq_true_eq,mkI_lt,outP_lt,encI_snoc,List.length_append,List.length_replicate,g1,Int.natCast_add,Int.natCast_one,Nat.add_assoc]<;>try ((repeat' apply And.intro)<;>first|rfl|omega|(congr 3; omega)|(congr 2; omega))
     ·simp -implicitDefEqProofs (disch:=omega) only[go_sem,simprocAttr, ↓ix_enc,tmodE,tdivE,mkI_len,mkI_chunks,fz_encI,Nat.mul_one,Nat.le_add_right,encI_all',List.length_replicate,Int.toNat_natCast,encI_snoc,mkI_def,List.length_append,Int.natCast_zero,g1]
      have rw_:=mulRow_ok hA gB.1 gB.2 i
      have ha0:a.length=k+1:=by omega
      have er:mulRow a (b.getD i 0) i=List.replicate i 0++(mulG a (b.getD i 0) (k+1)).1++[(mulG a (b.getD i 0) (k+1)).2]:=by simp only[mulRow,ha0]
      rw[er,ha0]at rw_
      obtain⟨w1,w2,w3⟩:=rw_
      have cr:=clean_row w2 (by omega)
      rw[w3]at cr
      with_reducible refine CallOk.of cr rfl ?_
      simp -implicitDefEqProofs (disch:=omega) only[go_sem,simprocAttr, ↓ix_enc,tmodE,tdivE,mkI_len,mkI_chunks,fz_encI,Nat.mul_one,Nat.le_add_right,encI_all',List.length_replicate,Int.toNat_natCast,encI_snoc,mkI_def,List.length_append,Int.natCast_zero]
      have ar:=add_rep (valF a*valF (b.take i)) (10000^i*(b.getD i 0*valF a)) sm sm2
      with_reducible refine CallOk.of ar (out_fz vnn vz) ?_
      rw[vstep]
      simp only[repN]
      simp -implicitDefEqProofs (disch:=omega) only[go_sem,simprocAttr, ↓ix_enc,tmodE,tdivE,mkI_len,mkI_chunks,fz_encI,Nat.mul_one,Nat.le_add_right,encI_all',List.length_replicate,Int.toNat_natCast,encI_snoc,mkI_def,List.length_append,Int.natCast_zero]
      refine⟨⟨i+1,by omega⟩,by simp only; omega,?_⟩
      simp only[mulS,outP]
      constructor<;>simp only[go_sem,simprocAttr,decide_eq_true_eq,vpos,Int.natCast_add,Int.natCast_one]<;>try ((repeat' apply And.intro)<;>first|rfl|omega|(congr 3; omega)|(congr 2; omega))
  ·have hb:i=b.length:=by omega
   have cl:=clean_ok (!(x==y)) (figs (valF a*valF b).natAbs) (Nat.le_trans (figs_len _ _ hq) (by omega))
   cases i with
   |zero=>
    have hb0:b=[]:=List.length_eq_zero_iff.1 hb.symm
    subst hb0
    have e0:valF a*valF []=0:=by simp[valF]
    rw[e0]at cl ⊢
    simp only[Int.natAbs_zero,figs_zero]at cl
    simp only[outP]
    simp -implicitDefEqProofs (disch:=omega) only[go_sem,simprocAttr, ↓ix_enc,tmodE,tdivE,mkI_len,mkI_chunks,fz_encI,Nat.mul_one,Nat.le_add_right,encI_all',List.length_replicate,Int.toNat_natCast,encI_snoc,mkI_def,List.length_append,Int.natCast_zero]
    with_reducible refine CallOk.of cl rfl ?_
    simp -implicitDefEqProofs (disch:=omega) only[go_sem,simprocAttr, ↓ix_enc,tmodE,tdivE,mkI_len,mkI_chunks,fz_encI,Nat.mul_one,Nat.le_add_right,encI_all',List.length_replicate,Int.toNat_natCast,encI_snoc,mkI_def,List.length_append,Int.natCast_zero]
    simp[cleanF,figs_zero]
   |succ i=>
    simp only[outP]
    rw[hb,List.take_length]
    simp -implicitDefEqProofs (disch:=omega) only[go_sem,simprocAttr, ↓ix_enc,tmodE,tdivE,mkI_len,mkI_chunks,fz_encI,Nat.mul_one,Nat.le_add_right,encI_all',List.length_replicate,Int.toNat_natCast,encI_snoc,mkI_def,List.length_append,Int.natCast_zero]
    with_reducible refine CallOk.of cl rfl ?_
    simp -implicitDefEqProofs (disch:=omega) only[go_sem,simprocAttr, ↓ix_enc,tmodE,tdivE,mkI_len,mkI_chunks,fz_encI,Nat.mul_one,Nat.le_add_right,encI_all',List.length_replicate,Int.toNat_natCast,encI_snoc,mkI_def,List.length_append,Int.natCast_zero]
    rfl
theorem mul_rep {j k:Nat}(x y:Int)(hx:Fg j x)(hy:Fg k y)(hk:j+k<=9000):Ok Tryz.prog 81 [repN x,repN y] (repN (x*y)):=by
 have lx:(figs x.natAbs).length<=j:=figs_len j _ hx
 have ly:(figs y.natAbs).length<=k:=figs_len k _ hy
 have h:=mul_ok (decide (x<0)) (decide (y<0)) _ _ (figs_digs x.natAbs) (figs_digs y.natAbs) (by omega)
 rw[figs_val,figs_val]at h
 rw[clean_rep _ (figs_digs _),figs_val]at h
 have e:(if(!(decide (x<0)==decide (y<0)))=true then -(((x.natAbs:Int)*y.natAbs).natAbs:Int) else(((x.natAbs:Int)*y.natAbs).natAbs:Int))=x*y:=by
  have h1:(x.natAbs:Int)*y.natAbs=((x*y).natAbs:Int):=by rw[Int.natAbs_mul,Int.natCast_mul]
  obtain⟨s1,s2⟩:=mul_sign x y
  rw[h1]
  generalize x*y=N at *
  split
  ·have:=s2 (by simp_all)
   omega
  ·have:=s1 (by simp_all)
   omega
 rw[e]at h
 exact h
end Go.Proofs.YtcgmpcbkndpmbaaGreatDoor
end
section
open Go Go.Proofs Go.Pw
namespace Go.Proofs.YtcgmpcbkndpmbaaGreatDoor
set_option maxRecDepth 4000
set_option linter.unusedSimpArgs false
set_option linter.unusedVariables false
attribute [local go_sem] Nat.le_refl Tryz.results100 Tryz.results101 Tryz.results26 Tryz.results39 Tryz.results58 Tryz.results60 Tryz.results79 Tryz.results80 Tryz.results81 Tryz.results82 encI_len encI_take
theorem ext_list (s:ByteArray)(a b:Nat):(s.extract a b).data.toList=(s.data.toList.drop a).take (b-a):=by
 rw[ByteArray.data_extract,Array.toList_extract,List.extract_eq_take_drop]
theorem bt_ext (s:ByteArray){a b:Nat}{i:Nat}(h:a+i<b):bt (s.extract a b) i=bt s (a+i:Nat):=by
 unfold bt
 rw[ext_list,Int.toNat_natCast,Int.toNat_natCast,List.getD_eq_getElem?_getD,List.getD_eq_getElem?_getD,List.getElem?_take,if_pos (by omega),List.getElem?_drop]
theorem bt_list {s:ByteArray}{i:Nat}{c:UInt8}(h:s.data.toList[i]? = some c):bt s i=(c.toNat:Int):=by
 unfold bt
 rw[Int.toNat_natCast,List.getD_eq_getElem?_getD,h]; rfl
theorem bt_rng (s:ByteArray)(i:Int):0<=bt s i/\bt s i<=255:=by
 unfold bt
 have:=UInt8.toNat_lt (s.data.toList.getD i.toNat 0)
 omega
def isD (b:Int):Prop:=48<=b/\b<=57
instance (b:Int):Decidable (isD b):=by unfold isD; infer_instance
def allD (t:ByteArray)(k:Nat):Prop:=∀j,j<t.size->k<=j->isD (bt t j)
instance (t:ByteArray) (k:Nat):Decidable (allD t k):=by unfold allD; infer_instance
def numV (t:ByteArray):Nat->Int
 |0=>0
 |i+1=>numV t i*10+(bt t i-48)
theorem numV_nn {t:ByteArray}(h:allD t 0):∀{i:Nat},i<=t.size->0<=numV t i
 |0,_=>by simp[numV]
 |i+1,hi=>by
  have ih:=numV_nn h (i:=i) (by omega)
  have d:=h i (by omega) (by omega)
  unfold isD at d
  rw[numV]
  omega
theorem numV_fg {t:ByteArray}(h:allD t 0):∀{i:Nat},i<=t.size->Fg i (numV t i)
 |0,_=>by simp[numV,Fg]
 |i+1,hi=>by
  have ih:=numV_fg h (i:=i) (by omega)
  have nn:=numV_nn h (i:=i) (by omega)
  have d:=h i (by omega) (by omega)
  unfold isD at d
  unfold Fg at *
  rw[numV,Nat.pow_succ]
  omega
theorem numV_mono {t:ByteArray}(h:allD t 0):∀{j i:Nat},i<=j->j<=t.size->numV t i<=numV t j
 |0,i,hi,_=>by
  have:i=0:=by omega
  subst this; exact Int.le_refl _
 |j+1,i,hi,hj=>by
  by_cases e:i=j+1
  ·subst e; exact Int.le_refl _
  ·have ih:=numV_mono h (j:=j) (i:=i) (by omega) (by omega)
   have nn:=numV_nn h (i:=j) (by omega)
   have d:=h j (by omega) (by omega)
   unfold isD at d
   rw[numV]
   omega
theorem parseU {t:ByteArray}(h:allD t 0):∀(m i:Nat),m=t.size-i->i<=t.size->numV t i<=18446744073709551615 ->
  Lib.parseUintM (2^64-1) (numV t i).toNat (t.data.toList.drop i)=if numV t t.size<=18446744073709551615 then .ok (numV t t.size).toNat else .range
 |0,i,hm,hi,hv=>by
  have:i=t.size:=by omega
  subst this
  rw[if_pos hv,List.drop_eq_nil_of_le (by simp)]
  rfl
 |m+1,i,hm,hi,hv=>by
  have hl:i<t.data.toList.length:=by simp; omega
  have hn:=numV_nn h hi
  have d:=h i (by omega) (by omega)
  obtain⟨c,hc⟩:∃c,t.data.toList[i]? = some c:=⟨_,List.getElem?_eq_getElem hl⟩
  have hb:=bt_list hc
  rw[hb]at d
  unfold isD at d
  have e1:t.data.toList.drop i=c::t.data.toList.drop (i+1):=by
   rw[List.drop_eq_getElem_cons hl]
   have:t.data.toList[i]=c:=by
    have:=List.getElem?_eq_getElem hl
    rw[hc]at this
    exact(Option.some.inj this).symm
   rw[this]
  have e2:numV t (i+1)=numV t i*10+(c.toNat-48):=by rw[numV,hb]
  have mono:=numV_mono h (show i+1<=t.size by omega) (Nat.le_refl _)
  rw[e1,Lib.parseUintM,if_pos (by omega)]
  by_cases h1:1844674407370955162<=(numV t i).toNat
  ·rw[if_pos h1,if_neg (by omega)]
  ·rw[if_neg h1]
   by_cases h2:18446744073709551615<numV t (i+1)
   ·rw[if_pos (by omega),if_neg (by omega)]
   ·rw[if_neg (by omega)]
    have ih:=parseU h m (i+1) (by omega) (by omega) (by omega)
    rw[<-ih]
    congr 1
    omega
def fromF (s:ByteArray):Nat:=if 0<s.size/\bt s 0=45 then 1 else 0
def formP (s:ByteArray):Prop:=fromF s<s.size/\¬(bt s (fromF s)=48/\fromF s+1<s.size)/\allD s (fromF s)
instance (s:ByteArray):Decidable (formP s):=by unfold formP; infer_instance
def digS (s:ByteArray):ByteArray:=if bt s 0=45 then s.extract 1 s.size else s
def zOf (s:ByteArray):Int:=if bt s 0=45 then -(numV (digS s) (digS s).size) else numV (digS s) (digS s).size
theorem digS_size {s:ByteArray}(h:formP s):(digS s).size=s.size-fromF s:=by
 obtain⟨h1,_⟩:=h
 unfold digS fromF at *
 split
 ·rename_i e
  rw[if_pos ⟨by omega,e⟩]
  simp
 ·rename_i e
  rw[if_neg (fun k=>e k.2)]
  omega
theorem digS_all {s:ByteArray}(h:formP s):allD (digS s) 0:=by
 have hz:=digS_size h
 obtain⟨h1,_,h3⟩:=h
 intro j hj _
 rw[hz]at hj
 unfold fromF at h1 hz hj
 unfold allD fromF at h3
 unfold digS
 split
 ·rename_i e
  have hs:0<s.size:=by omega
  rw[if_pos ⟨hs,e⟩]at hj
  rw[if_pos ⟨hs,e⟩]at h3
  have:=h3 (1+j) (by omega) (by omega)
  rw[bt_ext s (by omega)]
  exact this
 ·rename_i e
  rw[if_neg (fun k=>e k.2)]at hj h3
  exact h3 j (by omega) (by omega)
theorem digS_list (s:ByteArray):(digS s).data.toList=if bt s 0=45 then s.data.toList.drop 1 else s.data.toList:=by
 unfold digS
 split
 ·rw[ext_list,List.take_of_length_le (by simp)]
 ·rfl
theorem parse_law {s:ByteArray}(h:formP s):Lib.parseIntB 64 s.data.toList=if fits (zOf s) then .ok (zOf s) else .range:=by
 have hz:=digS_size h
 have hall:=digS_all h
 have hd:=digS_list s
 have hu:=parseU hall _ 0 rfl (Nat.zero_le _) (by simp[numV])
 have hn:=numV_nn hall (Nat.le_refl _)
 have h0:fromF s<s.size:=h.1
 rw[List.drop_zero]at hu
 obtain⟨c,r,hl⟩:∃c r,s.data.toList=c::r:=by
  cases e:s.data.toList with
  |nil=>
   have:s.size=0:=by
    have:=congrArg List.length e
    simpa using this
   omega
  |cons c r=>exact⟨c,r,rfl⟩
 have hb:bt s 0=(c.toNat:Int):=bt_list (s:=s) (i:=0) (by rw[hl]; rfl)
 have hne:(digS s).data.toList≠[]:=by
  intro e
  have h2:(digS s).data.toList.length=0:=by rw[e]; rfl
  rw[Array.length_toList]at h2
  have h3:(digS s).size=0:=h2
  omega
 have e43:c.toNat≠43:=by
  intro e
  have h3:=h.2.2
  rw[e]at hb
  have:fromF s=0:=by unfold fromF; rw[if_neg (by rw[hb]; rintro⟨_,h⟩; cases h)]
  have d:=h3 0 (by omega) (by omega)
  have hb':bt s (0:Nat)=43:=hb
  rw[hb']at d
  unfold isD at d
  omega
 have e45:(c.toNat=43∨c.toNat=45)=(bt s 0=45):=by
  rw[hb]
  exact propext ⟨fun h=>by omega,fun h=>by omega⟩
 have key:(if c.toNat=43∨c.toNat=45 then r else s.data.toList)=(digS s).data.toList:=by
  rw[hd]
  by_cases e:bt s 0=45
  ·rw[if_pos e,if_pos (by rw[e45]; exact e),hl]; rfl
  ·rw[if_neg e,if_neg (by rw[e45]; exact e)]
 have hU:Lib.parseUintB 64 (digS s).data.toList=if numV (digS s) (digS s).size<=18446744073709551615 then .ok (numV (digS s) (digS s).size).toNat else .range:=by
  rw[Lib.parseUintB,if_neg hne]
  exact hu
 unfold Lib.parseIntB
 rw[hl]
 simp only
 rw[<-hl,key,hU]
 generalize hV:numV (digS s) (digS s).size=V at *
 have hzo:zOf s=if bt s 0=45 then -V else V:=by unfold zOf; rw[hV]
 rw[hzo]
 unfold fits
 by_cases hs:bt s 0=45
 ·have hc:c.toNat=45:=by omega
  simp only[hs,hc,if_true,not_true_eq_false,false_and,if_false,true_and]
  by_cases k1:V<=18446744073709551615
  ·simp only[k1,if_true]
   by_cases k2:V<=9223372036854775808
   ·rw[if_neg (by omega),if_pos (by omega)]
    congr 1
    omega
   ·rw[if_pos (by omega),if_neg (by omega)]
  ·simp only[k1,if_false]
   rw[if_neg (by omega)]
 ·have hc:c.toNat≠45:=by omega
  simp only[hs,hc,if_false,not_false_eq_true,true_and,false_and]
  by_cases k1:V<=18446744073709551615
  ·simp only[k1,if_true]
   by_cases k2:V<=9223372036854775807
   ·rw[if_neg (by omega),if_pos (by omega)]
    congr 1
    omega
   ·rw[if_pos (by omega),if_neg (by omega)]
  ·simp only[k1,if_false]
   rw[if_neg (by omega)]
end Go.Proofs.YtcgmpcbkndpmbaaGreatDoor
end

end
section
open Go Go.Proofs Go.Pw Go.RowKit
namespace Go.Proofs.YtcgmpcbkndpmbaaGreatDoor
set_option maxRecDepth 4000
set_option linter.unusedVariables false
set_option linter.unusedSimpArgs false
theorem stable_below {S:Cells}{w w':World}(hS:Stable S w)(hb:Below w.heap.size w w'):Stable S w':=fun b o u hu=>by
 have h1:=hS b o u hu
 have hlt:b<w.heap.size:=by
  rcases Nat.lt_or_ge b w.heap.size with h'|h'
  ·exact h'
  ·simp[World.cell?,Array.getElem?_eq_none h']at h1
 rw[World.cell?_of_block (hb.block b hlt)]
 exact h1
theorem Ok.of_plain {P:Program}{f:FuncId}{l:List Value}{r:PV}(hent:enters P f=true)(h:∀w,Known w->Calls P f l.toArray w fun e w'=>∃v,e = .returned v/\(∀S,RepA S v r)/\Below w.heap.size w w'):Ok P f (l.map .val) r:=by
 refine⟨hent,fun S w vals hk hS hn hr=>?_⟩
 have e:vals=l.toArray:=by
  apply Array.ext (by simpa using hn)
  intro i h1 h2
  have hl:i<l.length:=by simpa using h2
  have:=(rep_val (hr i vals[i] (.val l[i]) (Array.getElem?_eq_getElem h1) (by simp[hl]))).1
  simpa using this
 subst e
 refine(h w hk).mono ?_
 rintro e w' ⟨v,rfl,hv,hb⟩
 exact⟨v,S,rfl,SLe.refl _,stable_below hS hb,fun b o u hu=> .inl hu,hv S,hb⟩
theorem rep_pair {C:Cx}{T:List (Nat×Tok)}{U V:Nat->Prop}{a b:Value}{p q:PV}(h1:RepV C T U V a p)(h2:RepV C T U V b q):RepV C T U V (.tuple #[a,b]) (.tup [p,q]):=
 .tup rfl (fun i v x hv hx=>by
  match i with
  |0=>simp at hv hx; subst hv hx; exact h1
  |1=>simp at hv hx; subst hv hx; exact h2
  |i+2=>simp at hv)
theorem rep_ptr0 {C:Cx}{T:List (Nat×Tok)}{U V:Nat->Prop}(N:Nat):RepV C T U V (.pointer (some ⟨N,0,none⟩)) (.fp []):= .fp (fun i p h=>by simp at h)
theorem parseInt_yes (s:ByteArray)(hs:s.size<=1000000)(h:formP s)(hf:fits (zOf s)):Ok Tryz.prog 110 [vS s,vI 10,vI 64] (.tup [vI (zOf s),.val .nilIface]):=
 Ok.of_plain (l:=[.string s,.int .i64 10,.int .i64 64]) (by kernel_rfl) fun w hk=>(Tryz.strconv_ParseInt_10_at64_ok s (by omega) (zOf s) (by rw[parse_law h,if_pos hf]) w).mono (by
  rintro e w' ⟨rfl,rfl|⟨t,rfl⟩⟩
  ·exact⟨_,rfl,fun S=>rep_pair (.frz (.val rfl)) (.frz (.val rfl)),Below.refl _ _⟩
  ·exact⟨_,rfl,fun S=>rep_pair (.frz (.val rfl)) (.frz (.val rfl)),Lib.bytesWorld_below _ _ _⟩)
theorem parseInt_no (s:ByteArray)(hs:s.size<=1000000)(h:formP s)(hf:¬fits (zOf s)):Ok Tryz.prog 110 [vS s,vI 10,vI 64] (.tup [vI (Lib.intSat 64 s.data.toList),.iface 171 (.fp [])]):=
 Ok.of_plain (l:=[.string s,.int .i64 10,.int .i64 64]) (by kernel_rfl) fun w hk=>by
  obtain⟨te,pe,hc⟩:=hasW_ErrRange hk.2
  refine(Tryz.strconv_ParseInt_10_at64_range s (by omega) (by rw[parse_law h,if_neg hf]) _ w hc (.inr ⟨te,pe,rfl⟩)).mono ?_
  rintro e w' ⟨N,rfl,_,_,hb⟩
  exact⟨_,rfl,fun S=>rep_pair (.frz (.val rfl)) (.iface (rep_ptr0 N)),hb⟩
theorem trimP_ok (s p:ByteArray):Ok Tryz.prog 121 [vS s,vS p] (vS ⟨(Lib.trimPrefix s.data.toList p.data.toList).toArray⟩):=
 Ok.of_plain (l:=[.string s,.string p]) (by kernel_rfl) fun w hk=>(Tryz.strings_TrimPrefix s p w).mono (by
  rintro e w' ⟨rfl,rfl⟩
  exact⟨_,rfl,fun S=> .frz (.val rfl),Below.refl _ _⟩)
theorem trim_dig (s:ByteArray):(⟨(Lib.trimPrefix s.data.toList [45]).toArray⟩:ByteArray)=digS s:=by
 apply ByteArray.ext
 apply Array.ext'
 rw[digS_list]
 unfold Lib.trimPrefix Lib.hasPrefix
 cases e:s.data.toList with
 |nil=>
  have:¬bt s 0=45:=by unfold bt; rw[e]; decide
  rw[if_neg this]; rfl
 |cons c r=>
  have hb:bt s 0=(c.toNat:Int):=bt_list (s:=s) (i:=0) (by rw[e]; rfl)
  have e45:(bt s 0=45)=(c=45):=by
   rw[hb]
   refine propext ⟨fun h=>UInt8.toNat_inj.1 (by rw[show c.toNat=45 from by omega]; rfl),fun h=>by subst h; rfl⟩
  by_cases h:c=45
  ·have h1:(List.isPrefixOf [45] (c::r))=true:=by subst h; simp
   have h2:bt s 0=45:=by rw[e45]; exact h
   rw[if_pos h1,if_pos h2]
   rfl
  ·have h1:¬(List.isPrefixOf [45] (c::r))=true:=by
    simp[List.isPrefixOf]
    exact fun k=>h k.symm
   have h2:¬bt s 0=45:=by rw[e45]; exact h
   rw[if_neg h1,if_neg h2]
end Go.Proofs.YtcgmpcbkndpmbaaGreatDoor

end
section
open Go Go.Proofs Go.Pw Go.RowKit
namespace Go.Proofs.YtcgmpcbkndpmbaaGreatDoor
set_option maxRecDepth 4000
set_option linter.unusedVariables false
set_option linter.unusedSimpArgs false
theorem indexByte_ok (s:ByteArray)(c:Int):Ok Tryz.prog 87 [vS s,vC c] (vI (Lib.indexByte s.data.toList c.toNat.toUInt8)):=
 Ok.of_plain (l:=[.string s,.int .u8 c]) (by kernel_rfl) fun w hk=>(Tryz.strings_IndexByte s c w).mono (by
  rintro e w' ⟨rfl,rfl⟩
  exact⟨_,rfl,fun S=> .frz (.val rfl),Below.refl _ _⟩)
theorem lkp_tokS {k:Nat}{e:TypeId}{s:ByteArray}(h:s.size≠0):lkp (tokS k e s) k=some ⟨e,1,s.size⟩:=by
 unfold tokS
 rw[if_neg h]
 simp[lkp]
theorem dropK_tokS (k:Nat)(e:TypeId)(s:ByteArray):dropK [k] (tokS k e s)=[]:=by
 unfold tokS
 split
 ·rfl
 ·simp[dropK,inL]
theorem tokS_weak (k nt:Nat)(t:TypeId)(s:ByteArray)(hk:k<nt):∀e∈tokS k t s,lkp (tokS k t s) e.1=some e.2/\e.1<nt:=by
 unfold tokS
 split
 ·intro e he; cases he
 ·intro e he
  simp only[List.mem_singleton]at he
  subst he
  exact⟨by simp[lkp],hk⟩
theorem rowS_0 (k:Nat):rowS k ByteArray.empty = .val (.slice none 0 0):=by unfold rowS; rfl
theorem tokS_0 (k:Nat)(e:TypeId):tokS k e ByteArray.empty=[]:=by unfold tokS; rfl
end Go.Proofs.YtcgmpcbkndpmbaaGreatDoor

end
section
open Go Go.Proofs Go.Pw
namespace Go.Proofs.YtcgmpcbkndpmbaaGreatDoor
set_option maxRecDepth 4000
set_option linter.unusedVariables false
set_option linter.unusedSimpArgs false
attribute [local go_sem] Nat.le_refl Tryz.results53 Tryz.results54 Tryz.results77 encI_len encI_take
def isF (n:Int):Bool:=decide (0<=n/\n<55296∨57344<=n/\n<=1114111)
theorem ris_ok (n:Int):Ok Tryz.prog 77 [vI n] (vB (isF n)):=by
 refine Ok.of_pwp (by kernel_rfl) Tryz.func77 rfl (by kernel_rfl) (by kernel_rfl) ?_
 simp -implicitDefEqProofs (disch:=omega) only[go_sem,simprocAttr, ↓ix_enc]
 repeat' ((first
  |with_reducible refine ifK_split (fun _=>?_) (fun _=>?_))<;>try simp -implicitDefEqProofs (disch:=omega) only[go_sem,simprocAttr, ↓ix_enc])
 all_goals (congr 2; simp only[isF]; first|(rw[eq_comm,decide_eq_false_iff_not]; omega)|(rw[eq_comm,decide_eq_true_eq]; omega)|(congr 1; apply propext; constructor<;>intro<;>omega))
def bytesF (n:Int):List Int:=
 if n<128 then[n] else if n<2048 then[192+n/64,128+n%64] else if n<65536 then[224+n/4096,128+n/64%64,128+n%64]
 else[240+n/262144,128+n/4096%64,128+n/64%64,128+n%64]
theorem bytes_ok (n:Int)(h0:0<=n)(h1:n<=1114111):Ok Tryz.prog 54 [vI n] (.sl (encI (bytesF n))):=by
 refine Ok.of_pwp (by kernel_rfl) Tryz.func54 rfl (by kernel_rfl) (by kernel_rfl) ?_
 unfold bytesF
 simp -implicitDefEqProofs (disch:=omega) only[go_sem,simprocAttr, ↓ix_enc,tdivE,tmodE]
 repeat' ((first
  |with_reducible refine ifK_split (fun _=>?_) (fun _=>?_))<;>try simp -implicitDefEqProofs (disch:=omega) only[go_sem,simprocAttr, ↓ix_enc,tdivE,tmodE])
 ·rw[if_pos (by omega)]; rfl
 ·rw[if_neg (by omega),if_pos (by omega)]; rfl
 ·rw[if_neg (by omega),if_neg (by omega),if_pos (by omega)]; rfl
 ·rw[if_neg (by omega),if_neg (by omega),if_neg (by omega)]; rfl
theorem bt_range (s:ByteArray)(i:Int):0<=bt s i/\bt s i<=255:=by
 unfold bt
 have:=UInt8.toNat_lt (s.data.toList.getD i.toNat 0)
 omega
def headF:Nat->Int
 |2=>192
 |3=>224
 |4=>240
 |_=>0
def accF (s:ByteArray)(a:Int)(m:Nat):Nat->Int
 |0=>bt s a-headF m
 |j+1=>accF s a m j*64+bt s (a+(j+1))-128
def sameF (b:List Int)(s:ByteArray)(a:Int)(m:Nat):Nat->Bool
 |0=>decide ((b.length:Int)=(m:Int))
 |j+1=>sameF b s a m j&&decide (b.getD j 0=bt s (a+j))
def firstF (s:ByteArray)(a:Int):Nat->Nat->Int×Int
 |0,_=>(-1,0)
 |f+1,m=>if(s.size:Int)<a+m then(-1,0) else if isF (accF s a m (m-1))&&sameF (bytesF (accF s a m (m-1))) s a m m then(accF s a m (m-1),m) else firstF s a f (m+1)
theorem accF_step (s:ByteArray)(a:Int)(m j:Nat)(B:Int)(h : -B<=accF s a m j/\accF s a m j<=B) : -(B*64+400)<=accF s a m (j+1)/\accF s a m (j+1)<=B*64+400:=by
 have:=bt_range s (a+(j+1))
 simp only[accF]
 omega
theorem accF_range (s:ByteArray)(a:Int)(m:Nat)(j:Nat)(hj:j<=3) : -1000000000<=accF s a m j/\accF s a m j<=1000000000:=by
 have b0:=bt_range s a
 have hh:0<=headF m/\headF m<=240:=by unfold headF; split<;>decide
 have h0 : -300<=accF s a m 0/\accF s a m 0<=300:=by simp only[accF]; omega
 have h1:=accF_step s a m 0 _ h0
 have h2:=accF_step s a m 1 _ h1
 have h3:=accF_step s a m 2 _ h2
 have:j=0∨j=1∨j=2∨j=3:=by omega
 rcases this with rfl|rfl|rfl|rfl
 ·omega
 ·simp only[Nat.zero_add]at h1; omega
 ·simp only[Nat.reduceAdd]at h2; omega
 ·simp only[Nat.reduceAdd]at h3; omega
theorem sameF_false {b:List Int}{s:ByteArray}{a:Int}{m j:Nat}(h:sameF b s a m j=false):∀k,sameF b s a m (j+k)=false
 |0=>h
 |k+1=>by rw[<-Nat.add_assoc,sameF,sameF_false h k,Bool.false_and]
theorem sameF_len {b:List Int}{s:ByteArray}{a:Int}{m:Nat}:∀{j:Nat},sameF b s a m j=true->b.length=m
 |0,h=>by simp only[sameF,decide_eq_true_eq]at h; omega
 |j+1,h=>by
  simp only[sameF,Bool.and_eq_true]at h
  exact sameF_len h.1
abbrev twoP (n e:Int):PV:= .tup [vI n,vI e]
set_option maxHeartbeats 8000000 in
theorem first_ok (s:ByteArray)(a:Int)(h0:0<=a)(h1:a<=s.size)(hs:s.size<=140737488351232):Ok Tryz.prog 53 [vS s,vI a] (twoP (firstF s a 4 1).1 (firstF s a 4 1).2):=by
 refine Ok.of_pwp (by kernel_rfl) Tryz.func53 rfl (by kernel_rfl) (by kernel_rfl) ?_
 generalize hr:firstF s a 4 1=r
 simp -implicitDefEqProofs (disch:=omega) only[go_sem,simprocAttr, ↓ix_enc]
 refine p_loop (ι:={ m:Nat // 1<=m/\m<=5/\r=firstF s a (5-m) m }) (fun m=>⟨[(6,vI m.1),(0,vS s),(1,vI a)],[],[],0,0⟩) (fun m=>5-m.1) ⟨1,by decide,by decide,hr.symm⟩ ?_ ?_
 ·constructor<;>simp only[go_sem,simprocAttr,decide_eq_true_eq,Int.natCast_one]<;>try ((repeat' apply And.intro)<;>first|rfl|omega|(congr 3; omega)|(congr 2; omega))
 ·rintro⟨m,g1,g2,g3⟩
  have hm:m=1∨m=2∨m=3∨m=4∨m=5:=by omega
  simp only
  rcases hm with rfl|rfl|rfl|rfl|rfl
  ·simp only[Int.natCast_one]
   simp -implicitDefEqProofs (disch:=omega) only[go_sem,simprocAttr, ↓ix_enc]
   with_reducible refine ifK_split (fun hge=>?_) (fun hlt=>?_)
   ·simp -implicitDefEqProofs (disch:=omega) only[go_sem,simprocAttr, ↓ix_enc]
    rw[g3]
    simp only[firstF]
    rw[if_pos (by omega)]
   ·have hb:=bt_range s a
    simp -implicitDefEqProofs (disch:=omega) only[go_sem,simprocAttr, ↓ix_enc]
    refine p_loop (ι:={ i:Nat // i<1 }) (fun i=>⟨[(9,vI (i.1+1:Nat)),(8,vI (accF s a 1 i.1)),(6,vI 1),(0,vS s),(1,vI a)],[],[],9,9⟩) (fun i=>1-i.1) ⟨0,by omega⟩ ?_ ?_
    ·simp only[accF,headF]
     constructor<;>simp only[go_sem,simprocAttr,decide_eq_true_eq,Int.natCast_one,Nat.zero_add]<;>try ((repeat' apply And.intro)<;>first|rfl|omega|(congr 3; omega)|(congr 2; omega))
    ·rintro⟨i,hi⟩
     simp only
     have hacc:=accF_range s a 1 i (by omega)
     simp -implicitDefEqProofs (disch:=omega) only[go_sem,simprocAttr, ↓ix_enc]
     ·have hi2:i=1-1:=by omega
      subst hi2
      simp only[Nat.reduceSub]at hacc ⊢
      simp -implicitDefEqProofs (disch:=omega) only[go_sem,simprocAttr, ↓ix_enc]
      with_reducible refine CallOk.of (ris_ok _) rfl ?_
      simp -implicitDefEqProofs (disch:=omega) only[go_sem,simprocAttr, ↓ix_enc]
      with_reducible refine ifK_bsplit (fun hn=>?_) (fun hn=>?_)
      ·have hn':isF (accF s a 1 (1-1))=false:=by simpa using hn
       simp -implicitDefEqProofs (disch:=omega) only[go_sem,simprocAttr, ↓ix_enc]
       refine⟨⟨2,by omega,by omega,?_⟩,by simp only; omega,?_⟩
       ·rw[g3]
        simp only[firstF]
        rw[if_neg (by omega),hn',Bool.false_and]
        rfl
       ·constructor<;>simp only[go_sem,simprocAttr,decide_eq_true_eq,Int.cast_ofNat_Int]<;>try ((repeat' apply And.intro)<;>first|rfl|omega|(congr 3; omega)|(congr 2; omega))
      ·have hn':isF (accF s a 1 (1-1))=true:=by simpa using hn
       have hp:0<=accF s a 1 (1-1)/\accF s a 1 (1-1)<=1114111:=by
        unfold isF at hn'
        simp only[decide_eq_true_eq]at hn'
        omega
       simp only[Nat.reduceSub]at hp
       simp -implicitDefEqProofs (disch:=omega) only[go_sem,simprocAttr, ↓ix_enc]
       with_reducible refine CallOk.of (bytes_ok _ hp.1 hp.2) rfl ?_
       simp -implicitDefEqProofs (disch:=omega) only[go_sem,simprocAttr, ↓ix_enc]
       refine p_loop (ι:={ j:Nat // j<=1 }) (fun j=>⟨[(12,vI j.1),(11,vB (sameF (bytesF (accF s a 1 (1-1))) s a 1 j.1)),(10,.sl (encI (bytesF (accF s a 1 (1-1))))),(8,vI (accF s a 1 (1-1))),(6,vI 1),(0,vS s),(1,vI a)],[],[],9,9⟩) (fun j=>1-j.1) ⟨0,by omega⟩ ?_ ?_
       ·simp only[sameF,Int.cast_ofNat_Int,Int.natCast_one]
        constructor<;>simp only[go_sem,simprocAttr,decide_eq_true_eq,Int.natCast_zero]<;>try ((repeat' apply And.intro)<;>first|rfl|omega|(congr 3; omega)|(congr 2; omega))
       ·rintro⟨j,hj⟩
        simp only
        generalize hbs:bytesF (accF s a 1 (1-1))=B at *
        have hbj:=bt_range s (a+j)
        simp -implicitDefEqProofs (disch:=omega) only[go_sem,simprocAttr, ↓ix_enc]
        with_reducible refine ifK_bsplit (fun hs1=>?_) (fun hs1=>?_)
        ·have hlen:=sameF_len hs1
         simp -implicitDefEqProofs (disch:=omega) only[go_sem,simprocAttr, ↓ix_enc,hs1]
         with_reducible refine ifK_split (fun hj1=>?_) (fun hj1=>?_)
         ·simp -implicitDefEqProofs (disch:=omega) only[go_sem,simprocAttr, ↓ix_enc,hs1]
          have e3:sameF B s a 1 (j+1)=decide (B.getD j 0=bt s (a+j)):=by simp only[sameF,hs1,Bool.true_and]
          refine⟨⟨j+1,by omega⟩,by simp only; omega,?_⟩
          simp only[e3]
          constructor<;>simp only[go_sem,simprocAttr,decide_eq_true_eq,Int.natCast_add,Int.natCast_one]<;>try ((repeat' apply And.intro)<;>first|rfl|omega|(congr 3; omega)|(congr 2; omega))
         ·have hj2:j=1:=by omega
          subst hj2
          simp -implicitDefEqProofs (disch:=omega) only[go_sem,simprocAttr, ↓ix_enc,hs1]
          rw[g3]
          simp only[firstF]
          rw[if_neg (by omega),hn',hbs,hs1]
          rfl
        ·have hs2:=sameF_false hs1 (1-j)
         rw[show j+(1-j)=1 by omega]at hs2
         simp -implicitDefEqProofs (disch:=omega) only[go_sem,simprocAttr, ↓ix_enc,hs1]
         refine⟨⟨2,by omega,by omega,?_⟩,by simp only; omega,?_⟩
         ·rw[g3]
          simp only[firstF]
          rw[if_neg (by omega),hn',hbs,hs2]
          rfl
         ·constructor<;>simp only[go_sem,simprocAttr,decide_eq_true_eq,Int.cast_ofNat_Int]<;>try ((repeat' apply And.intro)<;>first|rfl|omega|(congr 3; omega)|(congr 2; omega))
  ·simp only[Int.cast_ofNat_Int]
   simp -implicitDefEqProofs (disch:=omega) only[go_sem,simprocAttr, ↓ix_enc]
   with_reducible refine ifK_split (fun hge=>?_) (fun hlt=>?_)
   ·simp -implicitDefEqProofs (disch:=omega) only[go_sem,simprocAttr, ↓ix_enc]
    rw[g3]
    simp only[firstF]
    rw[if_pos (by omega)]
   ·have hb:=bt_range s a
    simp -implicitDefEqProofs (disch:=omega) only[go_sem,simprocAttr, ↓ix_enc]
    refine p_loop (ι:={ i:Nat // i<2 }) (fun i=>⟨[(9,vI (i.1+1:Nat)),(8,vI (accF s a 2 i.1)),(6,vI 2),(0,vS s),(1,vI a)],[],[],9,9⟩) (fun i=>2-i.1) ⟨0,by omega⟩ ?_ ?_
    ·simp only[accF,headF]
     constructor<;>simp only[go_sem,simprocAttr,decide_eq_true_eq,Int.natCast_one,Nat.zero_add]<;>try ((repeat' apply And.intro)<;>first|rfl|omega|(congr 3; omega)|(congr 2; omega))
    ·rintro⟨i,hi⟩
     simp only
     have hacc:=accF_range s a 2 i (by omega)
     simp -implicitDefEqProofs (disch:=omega) only[go_sem,simprocAttr, ↓ix_enc]
     with_reducible refine ifK_split (fun hlt2=>?_) (fun hge2=>?_)
     ·have hacc2:=accF_range s a 2 (i+1) (by omega)
      have hb2:=bt_range s (a+(i+1:Nat))
      have e2:accF s a 2 (i+1)=accF s a 2 i*64+bt s (a+(i+1:Nat))-128:=by simp only[accF]; rfl
      simp -implicitDefEqProofs (disch:=omega) only[go_sem,simprocAttr, ↓ix_enc]
      refine⟨⟨i+1,by omega⟩,by simp only; omega,?_⟩
      simp only[e2]
      constructor<;>simp only[go_sem,simprocAttr,decide_eq_true_eq,Int.natCast_add,Int.natCast_one]<;>try ((repeat' apply And.intro)<;>first|rfl|omega|(congr 3; omega)|(congr 2; omega))
     ·have hi2:i=2-1:=by omega
      subst hi2
      simp only[Nat.reduceSub]at hacc ⊢
      simp -implicitDefEqProofs (disch:=omega) only[go_sem,simprocAttr, ↓ix_enc]
      with_reducible refine CallOk.of (ris_ok _) rfl ?_
      simp -implicitDefEqProofs (disch:=omega) only[go_sem,simprocAttr, ↓ix_enc]
      with_reducible refine ifK_bsplit (fun hn=>?_) (fun hn=>?_)
      ·have hn':isF (accF s a 2 (2-1))=false:=by simpa using hn
       simp -implicitDefEqProofs (disch:=omega) only[go_sem,simprocAttr, ↓ix_enc]
       refine⟨⟨3,by omega,by omega,?_⟩,by simp only; omega,?_⟩
       ·rw[g3]
        simp only[firstF]
        rw[if_neg (by omega),hn',Bool.false_and]
        rfl
       ·constructor<;>simp only[go_sem,simprocAttr,decide_eq_true_eq,Int.cast_ofNat_Int]<;>try ((repeat' apply And.intro)<;>first|rfl|omega|(congr 3; omega)|(congr 2; omega))
      ·have hn':isF (accF s a 2 (2-1))=true:=by simpa using hn
       have hp:0<=accF s a 2 (2-1)/\accF s a 2 (2-1)<=1114111:=by
        unfold isF at hn'
        simp only[decide_eq_true_eq]at hn'
        omega
       simp only[Nat.reduceSub]at hp
       simp -implicitDefEqProofs (disch:=omega) only[go_sem,simprocAttr, ↓ix_enc]
       with_reducible refine CallOk.of (bytes_ok _ hp.1 hp.2) rfl ?_
       simp -implicitDefEqProofs (disch:=omega) only[go_sem,simprocAttr, ↓ix_enc]
       refine p_loop (ι:={ j:Nat // j<=2 }) (fun j=>⟨[(12,vI j.1),(11,vB (sameF (bytesF (accF s a 2 (2-1))) s a 2 j.1)),(10,.sl (encI (bytesF (accF s a 2 (2-1))))),(8,vI (accF s a 2 (2-1))),(6,vI 2),(0,vS s),(1,vI a)],[],[],9,9⟩) (fun j=>2-j.1) ⟨0,by omega⟩ ?_ ?_
       ·simp only[sameF,Int.cast_ofNat_Int,Int.natCast_one]
        constructor<;>simp only[go_sem,simprocAttr,decide_eq_true_eq,Int.natCast_zero]<;>try ((repeat' apply And.intro)<;>first|rfl|omega|(congr 3; omega)|(congr 2; omega))
       ·rintro⟨j,hj⟩
        simp only
        generalize hbs:bytesF (accF s a 2 (2-1))=B at *
        have hbj:=bt_range s (a+j)
        simp -implicitDefEqProofs (disch:=omega) only[go_sem,simprocAttr, ↓ix_enc]
        with_reducible refine ifK_bsplit (fun hs1=>?_) (fun hs1=>?_)
        ·have hlen:=sameF_len hs1
         simp -implicitDefEqProofs (disch:=omega) only[go_sem,simprocAttr, ↓ix_enc,hs1]
         with_reducible refine ifK_split (fun hj1=>?_) (fun hj1=>?_)
         ·simp -implicitDefEqProofs (disch:=omega) only[go_sem,simprocAttr, ↓ix_enc,hs1]
          have e3:sameF B s a 2 (j+1)=decide (B.getD j 0=bt s (a+j)):=by simp only[sameF,hs1,Bool.true_and]
          refine⟨⟨j+1,by omega⟩,by simp only; omega,?_⟩
          simp only[e3]
          constructor<;>simp only[go_sem,simprocAttr,decide_eq_true_eq,Int.natCast_add,Int.natCast_one]<;>try ((repeat' apply And.intro)<;>first|rfl|omega|(congr 3; omega)|(congr 2; omega))
         ·have hj2:j=2:=by omega
          subst hj2
          simp -implicitDefEqProofs (disch:=omega) only[go_sem,simprocAttr, ↓ix_enc,hs1]
          rw[g3]
          simp only[firstF]
          rw[if_neg (by omega),hn',hbs,hs1]
          rfl
        ·have hs2:=sameF_false hs1 (2-j)
         rw[show j+(2-j)=2 by omega]at hs2
         simp -implicitDefEqProofs (disch:=omega) only[go_sem,simprocAttr, ↓ix_enc,hs1]
         refine⟨⟨3,by omega,by omega,?_⟩,by simp only; omega,?_⟩
         ·rw[g3]
          simp only[firstF]
          rw[if_neg (by omega),hn',hbs,hs2]
          rfl
         ·constructor<;>simp only[go_sem,simprocAttr,decide_eq_true_eq,Int.cast_ofNat_Int]<;>try ((repeat' apply And.intro)<;>first|rfl|omega|(congr 3; omega)|(congr 2; omega))
  ·simp only[Int.cast_ofNat_Int]
   simp -implicitDefEqProofs (disch:=omega) only[go_sem,simprocAttr, ↓ix_enc]
   with_reducible refine ifK_split (fun hge=>?_) (fun hlt=>?_)
   ·simp -implicitDefEqProofs (disch:=omega) only[go_sem,simprocAttr, ↓ix_enc]
    rw[g3]
    simp only[firstF]
    rw[if_pos (by omega)]
   ·have hb:=bt_range s a
    simp -implicitDefEqProofs (disch:=omega) only[go_sem,simprocAttr, ↓ix_enc]
    refine p_loop (ι:={ i:Nat // i<3 }) (fun i=>⟨[(9,vI (i.1+1:Nat)),(8,vI (accF s a 3 i.1)),(6,vI 3),(0,vS s),(1,vI a)],[],[],9,9⟩) (fun i=>3-i.1) ⟨0,by omega⟩ ?_ ?_
    ·simp only[accF,headF]
     constructor<;>simp only[go_sem,simprocAttr,decide_eq_true_eq,Int.natCast_one,Nat.zero_add]<;>try ((repeat' apply And.intro)<;>first|rfl|omega|(congr 3; omega)|(congr 2; omega))
    ·rintro⟨i,hi⟩
     simp only
     have hacc:=accF_range s a 3 i (by omega)
     simp -implicitDefEqProofs (disch:=omega) only[go_sem,simprocAttr, ↓ix_enc]
     with_reducible refine ifK_split (fun hlt2=>?_) (fun hge2=>?_)
     ·have hacc2:=accF_range s a 3 (i+1) (by omega)
      have hb2:=bt_range s (a+(i+1:Nat))
      have e2:accF s a 3 (i+1)=accF s a 3 i*64+bt s (a+(i+1:Nat))-128:=by simp only[accF]; rfl
      simp -implicitDefEqProofs (disch:=omega) only[go_sem,simprocAttr, ↓ix_enc]
      refine⟨⟨i+1,by omega⟩,by simp only; omega,?_⟩
      simp only[e2]
      constructor<;>simp only[go_sem,simprocAttr,decide_eq_true_eq,Int.natCast_add,Int.natCast_one]<;>try ((repeat' apply And.intro)<;>first|rfl|omega|(congr 3; omega)|(congr 2; omega))
     ·have hi2:i=3-1:=by omega
      subst hi2
      simp only[Nat.reduceSub]at hacc ⊢
      simp -implicitDefEqProofs (disch:=omega) only[go_sem,simprocAttr, ↓ix_enc]
      with_reducible refine CallOk.of (ris_ok _) rfl ?_
      simp -implicitDefEqProofs (disch:=omega) only[go_sem,simprocAttr, ↓ix_enc]
      with_reducible refine ifK_bsplit (fun hn=>?_) (fun hn=>?_)
      ·have hn':isF (accF s a 3 (3-1))=false:=by simpa using hn
       simp -implicitDefEqProofs (disch:=omega) only[go_sem,simprocAttr, ↓ix_enc]
       refine⟨⟨4,by omega,by omega,?_⟩,by simp only; omega,?_⟩
       ·rw[g3]
        simp only[firstF]
        rw[if_neg (by omega),hn',Bool.false_and]
        rfl
       ·constructor<;>simp only[go_sem,simprocAttr,decide_eq_true_eq,Int.cast_ofNat_Int]<;>try ((repeat' apply And.intro)<;>first|rfl|omega|(congr 3; omega)|(congr 2; omega))
      ·have hn':isF (accF s a 3 (3-1))=true:=by simpa using hn
       have hp:0<=accF s a 3 (3-1)/\accF s a 3 (3-1)<=1114111:=by
        unfold isF at hn'
        simp only[decide_eq_true_eq]at hn'
        omega
       simp only[Nat.reduceSub]at hp
       simp -implicitDefEqProofs (disch:=omega) only[go_sem,simprocAttr, ↓ix_enc]
       with_reducible refine CallOk.of (bytes_ok _ hp.1 hp.2) rfl ?_
       simp -implicitDefEqProofs (disch:=omega) only[go_sem,simprocAttr, ↓ix_enc]
       refine p_loop (ι:={ j:Nat // j<=3 }) (fun j=>⟨[(12,vI j.1),(11,vB (sameF (bytesF (accF s a 3 (3-1))) s a 3 j.1)),(10,.sl (encI (bytesF (accF s a 3 (3-1))))),(8,vI (accF s a 3 (3-1))),(6,vI 3),(0,vS s),(1,vI a)],[],[],9,9⟩) (fun j=>3-j.1) ⟨0,by omega⟩ ?_ ?_
       ·simp only[sameF,Int.cast_ofNat_Int,Int.natCast_one]
        constructor<;>simp only[go_sem,simprocAttr,decide_eq_true_eq,Int.natCast_zero]<;>try ((repeat' apply And.intro)<;>first|rfl|omega|(congr 3; omega)|(congr 2; omega))
       ·rintro⟨j,hj⟩
        simp only
        generalize hbs:bytesF (accF s a 3 (3-1))=B at *
        have hbj:=bt_range s (a+j)
        simp -implicitDefEqProofs (disch:=omega) only[go_sem,simprocAttr, ↓ix_enc]
        with_reducible refine ifK_bsplit (fun hs1=>?_) (fun hs1=>?_)
        ·have hlen:=sameF_len hs1
         simp -implicitDefEqProofs (disch:=omega) only[go_sem,simprocAttr, ↓ix_enc,hs1]
         with_reducible refine ifK_split (fun hj1=>?_) (fun hj1=>?_)
         ·simp -implicitDefEqProofs (disch:=omega) only[go_sem,simprocAttr, ↓ix_enc,hs1]
          have e3:sameF B s a 3 (j+1)=decide (B.getD j 0=bt s (a+j)):=by simp only[sameF,hs1,Bool.true_and]
          refine⟨⟨j+1,by omega⟩,by simp only; omega,?_⟩
          simp only[e3]
          constructor<;>simp only[go_sem,simprocAttr,decide_eq_true_eq,Int.natCast_add,Int.natCast_one]<;>try ((repeat' apply And.intro)<;>first|rfl|omega|(congr 3; omega)|(congr 2; omega))
         ·have hj2:j=3:=by omega
          subst hj2
          simp -implicitDefEqProofs (disch:=omega) only[go_sem,simprocAttr, ↓ix_enc,hs1]
          rw[g3]
          simp only[firstF]
          rw[if_neg (by omega),hn',hbs,hs1]
          rfl
        ·have hs2:=sameF_false hs1 (3-j)
         rw[show j+(3-j)=3 by omega]at hs2
         simp -implicitDefEqProofs (disch:=omega) only[go_sem,simprocAttr, ↓ix_enc,hs1]
         refine⟨⟨4,by omega,by omega,?_⟩,by simp only; omega,?_⟩
         ·rw[g3]
          simp only[firstF]
          rw[if_neg (by omega),hn',hbs,hs2]
          rfl
         ·constructor<;>simp only[go_sem,simprocAttr,decide_eq_true_eq,Int.cast_ofNat_Int]<;>try ((repeat' apply And.intro)<;>first|rfl|omega|(congr 3; omega)|(congr 2; omega))
  ·simp only[Int.cast_ofNat_Int]
   simp -implicitDefEqProofs (disch:=omega) only[go_sem,simprocAttr, ↓ix_enc]
   with_reducible refine ifK_split (fun hge=>?_) (fun hlt=>?_)
   ·simp -implicitDefEqProofs (disch:=omega) only[go_sem,simprocAttr, ↓ix_enc]
    rw[g3]
    simp only[firstF]
    rw[if_pos (by omega)]
   ·have hb:=bt_range s a
    simp -implicitDefEqProofs (disch:=omega) only[go_sem,simprocAttr, ↓ix_enc]
    refine p_loop (ι:={ i:Nat // i<4 }) (fun i=>⟨[(9,vI (i.1+1:Nat)),(8,vI (accF s a 4 i.1)),(6,vI 4),(0,vS s),(1,vI a)],[],[],9,9⟩) (fun i=>4-i.1) ⟨0,by omega⟩ ?_ ?_
    ·simp only[accF,headF]
     constructor<;>simp only[go_sem,simprocAttr,decide_eq_true_eq,Int.natCast_one,Nat.zero_add]<;>try ((repeat' apply And.intro)<;>first|rfl|omega|(congr 3; omega)|(congr 2; omega))
    ·rintro⟨i,hi⟩
     simp only
     have hacc:=accF_range s a 4 i (by omega)
     simp -implicitDefEqProofs (disch:=omega) only[go_sem,simprocAttr, ↓ix_enc]
     with_reducible refine ifK_split (fun hlt2=>?_) (fun hge2=>?_)
     ·have hacc2:=accF_range s a 4 (i+1) (by omega)
      have hb2:=bt_range s (a+(i+1:Nat))
      have e2:accF s a 4 (i+1)=accF s a 4 i*64+bt s (a+(i+1:Nat))-128:=by simp only[accF]; rfl
      simp -implicitDefEqProofs (disch:=omega) only[go_sem,simprocAttr, ↓ix_enc]
      refine⟨⟨i+1,by omega⟩,by simp only; omega,?_⟩
      simp only[e2]
      constructor<;>simp only[go_sem,simprocAttr,decide_eq_true_eq,Int.natCast_add,Int.natCast_one]<;>try ((repeat' apply And.intro)<;>first|rfl|omega|(congr 3; omega)|(congr 2; omega))
     ·have hi2:i=4-1:=by omega
      subst hi2
      simp only[Nat.reduceSub]at hacc ⊢
      simp -implicitDefEqProofs (disch:=omega) only[go_sem,simprocAttr, ↓ix_enc]
      with_reducible refine CallOk.of (ris_ok _) rfl ?_
      simp -implicitDefEqProofs (disch:=omega) only[go_sem,simprocAttr, ↓ix_enc]
      with_reducible refine ifK_bsplit (fun hn=>?_) (fun hn=>?_)
      ·have hn':isF (accF s a 4 (4-1))=false:=by simpa using hn
       simp -implicitDefEqProofs (disch:=omega) only[go_sem,simprocAttr, ↓ix_enc]
       refine⟨⟨5,by omega,by omega,?_⟩,by simp only; omega,?_⟩
       ·rw[g3]
        simp only[firstF]
        rw[if_neg (by omega),hn',Bool.false_and]
        rfl
       ·constructor<;>simp only[go_sem,simprocAttr,decide_eq_true_eq,Int.cast_ofNat_Int]<;>try ((repeat' apply And.intro)<;>first|rfl|omega|(congr 3; omega)|(congr 2; omega))
      ·have hn':isF (accF s a 4 (4-1))=true:=by simpa using hn
       have hp:0<=accF s a 4 (4-1)/\accF s a 4 (4-1)<=1114111:=by
        unfold isF at hn'
        simp only[decide_eq_true_eq]at hn'
        omega
       simp only[Nat.reduceSub]at hp
       simp -implicitDefEqProofs (disch:=omega) only[go_sem,simprocAttr, ↓ix_enc]
       with_reducible refine CallOk.of (bytes_ok _ hp.1 hp.2) rfl ?_
       simp -implicitDefEqProofs (disch:=omega) only[go_sem,simprocAttr, ↓ix_enc]
       refine p_loop (ι:={ j:Nat // j<=4 }) (fun j=>⟨[(12,vI j.1),(11,vB (sameF (bytesF (accF s a 4 (4-1))) s a 4 j.1)),(10,.sl (encI (bytesF (accF s a 4 (4-1))))),(8,vI (accF s a 4 (4-1))),(6,vI 4),(0,vS s),(1,vI a)],[],[],9,9⟩) (fun j=>4-j.1) ⟨0,by omega⟩ ?_ ?_
       ·simp only[sameF,Int.cast_ofNat_Int,Int.natCast_one]
        constructor<;>simp only[go_sem,simprocAttr,decide_eq_true_eq,Int.natCast_zero]<;>try ((repeat' apply And.intro)<;>first|rfl|omega|(congr 3; omega)|(congr 2; omega))
       ·rintro⟨j,hj⟩
        simp only
        generalize hbs:bytesF (accF s a 4 (4-1))=B at *
        have hbj:=bt_range s (a+j)
        simp -implicitDefEqProofs (disch:=omega) only[go_sem,simprocAttr, ↓ix_enc]
        with_reducible refine ifK_bsplit (fun hs1=>?_) (fun hs1=>?_)
        ·have hlen:=sameF_len hs1
         simp -implicitDefEqProofs (disch:=omega) only[go_sem,simprocAttr, ↓ix_enc,hs1]
         with_reducible refine ifK_split (fun hj1=>?_) (fun hj1=>?_)
         ·simp -implicitDefEqProofs (disch:=omega) only[go_sem,simprocAttr, ↓ix_enc,hs1]
          have e3:sameF B s a 4 (j+1)=decide (B.getD j 0=bt s (a+j)):=by simp only[sameF,hs1,Bool.true_and]
          refine⟨⟨j+1,by omega⟩,by simp only; omega,?_⟩
          simp only[e3]
          constructor<;>simp only[go_sem,simprocAttr,decide_eq_true_eq,Int.natCast_add,Int.natCast_one]<;>try ((repeat' apply And.intro)<;>first|rfl|omega|(congr 3; omega)|(congr 2; omega))
         ·have hj2:j=4:=by omega
          subst hj2
          simp -implicitDefEqProofs (disch:=omega) only[go_sem,simprocAttr, ↓ix_enc,hs1]
          rw[g3]
          simp only[firstF]
          rw[if_neg (by omega),hn',hbs,hs1]
          rfl
        ·have hs2:=sameF_false hs1 (4-j)
         rw[show j+(4-j)=4 by omega]at hs2
         simp -implicitDefEqProofs (disch:=omega) only[go_sem,simprocAttr, ↓ix_enc,hs1]
         refine⟨⟨5,by omega,by omega,?_⟩,by simp only; omega,?_⟩
         ·rw[g3]
          simp only[firstF]
          rw[if_neg (by omega),hn',hbs,hs2]
          rfl
         ·constructor<;>simp only[go_sem,simprocAttr,decide_eq_true_eq,Int.cast_ofNat_Int]<;>try ((repeat' apply And.intro)<;>first|rfl|omega|(congr 3; omega)|(congr 2; omega))
  ·simp only[Int.cast_ofNat_Int]
   simp -implicitDefEqProofs (disch:=omega) only[go_sem,simprocAttr, ↓ix_enc]
   rw[g3]
   rfl
end Go.Proofs.YtcgmpcbkndpmbaaGreatDoor

end
section
open Go Go.Proofs Go.Pw
namespace Go.Proofs.YtcgmpcbkndpmbaaGreatDoor
set_option maxRecDepth 4000
set_option linter.unusedVariables false
set_option linter.unusedSimpArgs false
def byteN (s:ByteArray)(i:Nat):Nat:=(s.data.toList.getD i 0).toNat
theorem byteN_lt (s:ByteArray)(i:Nat):byteN s i<256:=UInt8.toNat_lt _
theorem bt_byteN (s:ByteArray)(i:Nat):bt s i=byteN s i:=rfl
theorem get!_byteN (s:ByteArray)(i:Nat):(s.get! i).toNat=byteN s i:=by
 unfold byteN
 cases s with
 |mk a=>
  show(a[i]!).toNat=_
  rw[getElem!_def,List.getD_eq_getElem?_getD]
  simp only[Array.getElem?_toList]
  cases a[i]? <;> rfl
def goodN (r:Nat×Nat):Int×Int:=if r=(65533,1) then(-1,0) else(r.1,r.2)
theorem try1 (s:ByteArray)(i:Nat):(isF (accF s i 1 0)&&sameF (bytesF (accF s i 1 0)) s i 1 1)=decide (byteN s i<128):=by
 have hb:=byteN_lt s i
 have e:accF s i 1 0=byteN s i:=by simp[accF,headF,bt_byteN]
 rw[e]
 simp only[sameF,isF,Int.natCast_zero,Int.add_zero,bt_byteN]
 unfold bytesF
 rw[Bool.eq_iff_iff]
 simp only[Bool.and_eq_true,decide_eq_true_eq]
 split
 ·simp; omega
 ·rw[if_pos (by omega)]
  simp
  omega
theorem try2 (s:ByteArray)(i:Nat):(isF (accF s i 2 1)&&sameF (bytesF (accF s i 2 1)) s i 2 2)=decide (194<=byteN s i/\byteN s i<224/\128<=byteN s (i+1)/\byteN s (i+1)<192):=by
 have hb:=byteN_lt s i
 have hb1:=byteN_lt s (i+1)
 have e:accF s i 2 1=((byteN s i:Int)-192)*64+byteN s (i+1)-128:=by
  have:((i:Int)+(((0:Nat):Int)+1))=((i+1:Nat):Int):=by omega
  simp only[accF,headF,bt_byteN,this]
 rw[e]
 have e1:((i:Int)+((1:Nat):Int))=((i+1:Nat):Int):=by omega
 simp only[sameF,isF,Int.natCast_zero,Int.add_zero,bt_byteN,e1]
 generalize byteN s i=x at *
 generalize byteN s (i+1)=y at *
 unfold bytesF
 rw[Bool.eq_iff_iff]
 simp only[Bool.and_eq_true,decide_eq_true_eq]
 repeat' split
 all_goals simp
 all_goals omega
theorem try3 (s:ByteArray)(i:Nat):(isF (accF s i 3 2)&&sameF (bytesF (accF s i 3 2)) s i 3 3)=decide (224<=byteN s i/\byteN s i<240/\128<=byteN s (i+1)/\byteN s (i+1)<192/\128<=byteN s (i+2)/\byteN s (i+2)<192 /\
  2048<=(byteN s i-224)*4096+(byteN s (i+1)-128)*64+(byteN s (i+2)-128)/\((byteN s i-224)*4096+(byteN s (i+1)-128)*64+(byteN s (i+2)-128)<55296∨57344<=(byteN s i-224)*4096+(byteN s (i+1)-128)*64+(byteN s (i+2)-128))):=by
 have hb:=byteN_lt s i
 have hb1:=byteN_lt s (i+1)
 have hb2:=byteN_lt s (i+2)
 have e:accF s i 3 2=(((byteN s i:Int)-224)*64+byteN s (i+1)-128)*64+byteN s (i+2)-128:=by
  have h1:((i:Int)+(((0:Nat):Int)+1))=((i+1:Nat):Int):=by omega
  have h2:((i:Int)+(((1:Nat):Int)+1))=((i+2:Nat):Int):=by omega
  simp only[accF,headF,bt_byteN,h1,h2]
 rw[e]
 have e1:((i:Int)+((1:Nat):Int))=((i+1:Nat):Int):=by omega
 have e2:((i:Int)+((2:Nat):Int))=((i+2:Nat):Int):=by omega
 simp only[sameF,isF,Int.natCast_zero,Int.add_zero,bt_byteN,e1,e2]
 generalize byteN s i=x at *
 generalize byteN s (i+1)=y at *
 generalize byteN s (i+2)=z at *
 unfold bytesF
 rw[Bool.eq_iff_iff]
 simp only[Bool.and_eq_true,decide_eq_true_eq]
 repeat' split
 all_goals simp
 all_goals omega
theorem try4 (s:ByteArray)(i:Nat):(isF (accF s i 4 3)&&sameF (bytesF (accF s i 4 3)) s i 4 4)=decide (240<=byteN s i/\byteN s i<248/\128<=byteN s (i+1)/\byteN s (i+1)<192/\128<=byteN s (i+2)/\byteN s (i+2)<192/\128<=byteN s (i+3)/\byteN s (i+3)<192 /\
  65536<=(byteN s i-240)*262144+(byteN s (i+1)-128)*4096+(byteN s (i+2)-128)*64+(byteN s (i+3)-128)/\(byteN s i-240)*262144+(byteN s (i+1)-128)*4096+(byteN s (i+2)-128)*64+(byteN s (i+3)-128)<=1114111):=by
 have hb:=byteN_lt s i
 have hb1:=byteN_lt s (i+1)
 have hb2:=byteN_lt s (i+2)
 have hb3:=byteN_lt s (i+3)
 have e:accF s i 4 3=((((byteN s i:Int)-240)*64+byteN s (i+1)-128)*64+byteN s (i+2)-128)*64+byteN s (i+3)-128:=by
  have h1:((i:Int)+(((0:Nat):Int)+1))=((i+1:Nat):Int):=by omega
  have h2:((i:Int)+(((1:Nat):Int)+1))=((i+2:Nat):Int):=by omega
  have h3:((i:Int)+(((2:Nat):Int)+1))=((i+3:Nat):Int):=by omega
  simp only[accF,headF,bt_byteN,h1,h2,h3]
 rw[e]
 have e1:((i:Int)+((1:Nat):Int))=((i+1:Nat):Int):=by omega
 have e2:((i:Int)+((2:Nat):Int))=((i+2:Nat):Int):=by omega
 have e3:((i:Int)+((3:Nat):Int))=((i+3:Nat):Int):=by omega
 simp only[sameF,isF,Int.natCast_zero,Int.add_zero,bt_byteN,e1,e2,e3]
 generalize byteN s i=x at *
 generalize byteN s (i+1)=y at *
 generalize byteN s (i+2)=z at *
 generalize byteN s (i+3)=t at *
 unfold bytesF
 rw[Bool.eq_iff_iff]
 simp only[Bool.and_eq_true,decide_eq_true_eq]
 repeat' split
 all_goals simp
 all_goals omega
theorem acc1 (s:ByteArray)(i:Nat):accF s i 1 0=byteN s i:=by simp[accF,headF,bt_byteN]
theorem acc2 (s:ByteArray)(i:Nat):accF s i 2 1=((byteN s i:Int)-192)*64+byteN s (i+1)-128:=by
 have:((i:Int)+(((0:Nat):Int)+1))=((i+1:Nat):Int):=by omega
 simp only[accF,headF,bt_byteN,this]
theorem acc3 (s:ByteArray)(i:Nat):accF s i 3 2=(((byteN s i:Int)-224)*64+byteN s (i+1)-128)*64+byteN s (i+2)-128:=by
 have h1:((i:Int)+(((0:Nat):Int)+1))=((i+1:Nat):Int):=by omega
 have h2:((i:Int)+(((1:Nat):Int)+1))=((i+2:Nat):Int):=by omega
 simp only[accF,headF,bt_byteN,h1,h2]
theorem acc4 (s:ByteArray)(i:Nat):accF s i 4 3=((((byteN s i:Int)-240)*64+byteN s (i+1)-128)*64+byteN s (i+2)-128)*64+byteN s (i+3)-128:=by
 have h1:((i:Int)+(((0:Nat):Int)+1))=((i+1:Nat):Int):=by omega
 have h2:((i:Int)+(((1:Nat):Int)+1))=((i+2:Nat):Int):=by omega
 have h3:((i:Int)+(((2:Nat):Int)+1))=((i+3:Nat):Int):=by omega
 simp only[accF,headF,bt_byteN,h1,h2,h3]
set_option maxHeartbeats 4000000 in
theorem first_decode (s:ByteArray)(i:Nat)(h:i<s.size):firstF s i 4 1=goodN (Utf8.decode s i):=by
 rw[Lib.decode_at]
 simp only[get!_byteN]
 have hb:=byteN_lt s i
 have hb1:=byteN_lt s (i+1)
 have hb2:=byteN_lt s (i+2)
 have hb3:=byteN_lt s (i+3)
 simp only[firstF,Nat.reduceSub,Nat.reduceAdd,try1,try2,try3,try4]
 simp only[acc1,acc2,acc3,acc4,decide_eq_true_eq]
 unfold Lib.decodeN
 generalize byteN s i=x at *
 generalize byteN s (i+1)=y at *
 generalize byteN s (i+2)=z at *
 generalize byteN s (i+3)=t at *
 rw[if_neg (by omega)]
 unfold goodN
 repeat' split
 all_goals first
  |rfl
  |(exfalso; omega)
  |exact absurd rfl (by assumption)
  |exact Prod.ext (by simp only; omega) rfl
  |(simp only[Prod.mk.injEq]at *; omega)
end Go.Proofs.YtcgmpcbkndpmbaaGreatDoor

end
section
open Go Go.Proofs Go.Pw
namespace Go.Proofs.YtcgmpcbkndpmbaaGreatDoor
set_option maxRecDepth 4000
set_option linter.unusedVariables false
set_option linter.unusedSimpArgs false
attribute [local go_sem] Nat.le_refl Tryz.results107 Tryz.results108 Tryz.results120 Tryz.results91 encI_len encI_take
abbrev vR (n:Int):PV:= .val (.int .i32 n)
def runeLenF (n:Int):Int:=if n<0 then -1 else if n<=127 then 1 else if n<=2047 then 2 else if 55296<=n/\n<=57343 then -1 else if n<=65535 then 3 else if n<=1114111 then 4 else -1
theorem runeLen_ok (n:Int):Ok Tryz.prog 107 [vR n] (vI (runeLenF n)):=by
 refine Ok.of_pwp (by kernel_rfl) Tryz.func107 rfl (by kernel_rfl) (by kernel_rfl) ?_
 unfold runeLenF
 simp -implicitDefEqProofs (disch:=omega) only[go_sem,simprocAttr, ↓ix_enc]
 repeat' ((first
  |with_reducible refine ifK_split (fun _=>?_) (fun _=>?_))<;>try simp -implicitDefEqProofs (disch:=omega) only[go_sem,simprocAttr, ↓ix_enc])
 all_goals (congr 2; repeat' split)
 all_goals first|rfl|(exfalso; omega)
def hasPF (s p:ByteArray):Bool:=decide (p.size<=s.size)&&decide (s.extract 0 p.size=p)
theorem hasP2_ok (s p:ByteArray):Ok Tryz.prog 120 [vS s,vS p] (vB (hasPF s p)):=by
 refine Ok.of_pwp (by kernel_rfl) Tryz.func120 rfl (by kernel_rfl) (by kernel_rfl) ?_
 simp -implicitDefEqProofs (disch:=omega) only[go_sem,simprocAttr, ↓ix_enc]
 with_reducible refine ifK_split (fun h=>?_) (fun h=>?_)
 ·simp -implicitDefEqProofs (disch:=omega) only[go_sem,simprocAttr, ↓ix_enc]
  unfold hasPF
  rw[decide_eq_true (by omega:p.size<=s.size),Bool.true_and]
 ·simp -implicitDefEqProofs (disch:=omega) only[go_sem,simprocAttr, ↓ix_enc]
  unfold hasPF
  rw[decide_eq_false (by omega:¬p.size<=s.size),Bool.false_and]
theorem hasP_ok (s p:ByteArray):Ok Tryz.prog 108 [vS s,vS p] (vB (hasPF s p)):=by
 refine Ok.of_pwp (by kernel_rfl) Tryz.func108 rfl (by kernel_rfl) (by kernel_rfl) ?_
 simp -implicitDefEqProofs (disch:=omega) only[go_sem,simprocAttr, ↓ix_enc]
 with_reducible refine CallOk.of (hasP2_ok _ _) rfl ?_
 simp -implicitDefEqProofs (disch:=omega) only[go_sem,simprocAttr, ↓ix_enc]
def decF (s:ByteArray):Int×Int:=if s.size=0 then(-1,0) else if((Utf8.decode s 0).1:Int)=65533/\hasPF s ⟨#[239,191,189]⟩=false then(-1,0) else((Utf8.decode s 0).1,runeLenF (Utf8.decode s 0).1)
set_option maxHeartbeats 1000000 in
theorem decode_ok0 (s:ByteArray)(hs:s.size<=140737488351232):Ok Tryz.prog 91 [vS s] (twoP (decF s).1 (decF s).2):=by
 refine Ok.of_pwp (by kernel_rfl) Tryz.func91 rfl (by kernel_rfl) (by kernel_rfl) ?_
 have hle:=decode_le s 0
 generalize hr:decF s=r
 unfold decF at hr
 simp -implicitDefEqProofs (disch:=omega) only[go_sem,simprocAttr, ↓ix_enc]
 refine p_loop (ι:=Unit) (fun _=>⟨[(8,.ptr 3 0),(0,vS s)],[(3,.iter s 0)],[],4,4⟩) (fun _=>0) () ?_ ?_
 ·constructor<;>simp only[go_sem,simprocAttr,decide_eq_true_eq,Nat.le_refl]<;>try ((repeat' apply And.intro)<;>first|rfl|omega|(congr 3; omega)|(congr 2; omega))
 ·intro _
  simp -implicitDefEqProofs (disch:=omega) only[go_sem,simprocAttr, ↓ix_enc]
  with_reducible refine ifK_split (fun h=>?_) (fun h=>?_)
  ·rw[if_neg (by omega)]at hr
   simp -implicitDefEqProofs (disch:=omega) only[go_sem,simprocAttr, ↓ix_enc]
   with_reducible refine CallOk.of (runeLen_ok _) rfl ?_
   simp -implicitDefEqProofs (disch:=omega) only[go_sem,simprocAttr, ↓ix_enc]
   with_reducible refine ifK_split (fun h2=>?_) (fun h2=>?_)
   ·simp -implicitDefEqProofs (disch:=omega) only[go_sem,simprocAttr, ↓ix_enc]
    with_reducible refine CallOk.of (hasP_ok _ _) rfl ?_
    simp -implicitDefEqProofs (disch:=omega) only[go_sem,simprocAttr, ↓ix_enc]
    with_reducible refine ifK_bsplit (fun h3=>?_) (fun h3=>?_)
    ·simp -implicitDefEqProofs (disch:=omega) only[go_sem,simprocAttr, ↓ix_enc]
     rw[if_pos ⟨by omega,by simpa using h3⟩]at hr
     rw[<-hr]
    ·simp -implicitDefEqProofs (disch:=omega) only[go_sem,simprocAttr, ↓ix_enc]
     rw[if_neg (by rintro⟨_,h4⟩; rw[h4]at h3; cases h3)]at hr
     rw[<-hr]
   ·simp -implicitDefEqProofs (disch:=omega) only[go_sem,simprocAttr, ↓ix_enc]
    rw[if_neg (by rintro⟨h4,_⟩; exact h2 h4)]at hr
    rw[<-hr]
  ·simp -implicitDefEqProofs (disch:=omega) only[go_sem,simprocAttr, ↓ix_enc]
   rw[if_pos (by omega)]at hr
   rw[<-hr]
end Go.Proofs.YtcgmpcbkndpmbaaGreatDoor

end
section
open Go Go.Proofs Go.Pw
namespace Go.Proofs.YtcgmpcbkndpmbaaGreatDoor
set_option maxRecDepth 4000
set_option linter.unusedVariables false
set_option linter.unusedSimpArgs false
theorem hasPF_eq (s:ByteArray):hasPF s ⟨#[239,191,189]⟩=decide (3<=s.size/\byteN s 0=239/\byteN s 1=191/\byteN s 2=189):=by
 have e:∀(p:ByteArray),(s.extract 0 p.size=p)=((s.data.toList.take p.size)=p.data.toList):=fun p=>by
  rw[<-str_eq]
  simp
 unfold hasPF byteN
 rw[Bool.eq_iff_iff]
 simp only[Bool.and_eq_true,decide_eq_true_eq]
 rw[e]
 rw[show(⟨#[239,191,189]⟩:ByteArray).size=3 from rfl,show(⟨#[239,191,189]⟩:ByteArray).data.toList=[239,191,189] from rfl]
 have hsz:s.size=s.data.toList.length:=(Array.length_toList).symm
 rw[hsz]
 generalize s.data.toList=l
 have k0:∀x:UInt8,(x.toNat=239)=(x=239):=fun x=>propext ⟨fun h=>UInt8.toNat_inj.1 h,fun h=>by rw[h]; rfl⟩
 have k1:∀x:UInt8,(x.toNat=191)=(x=191):=fun x=>propext ⟨fun h=>UInt8.toNat_inj.1 h,fun h=>by rw[h]; rfl⟩
 have k2:∀x:UInt8,(x.toNat=189)=(x=189):=fun x=>propext ⟨fun h=>UInt8.toNat_inj.1 h,fun h=>by rw[h]; rfl⟩
 match l with
 | []=>simp
 | [a]=>simp
 | [a,b]=>simp
 |a::b::c::r=>simp[k0,k1,k2]
set_option maxHeartbeats 4000000 in
theorem decN_shape (n x y z t:Nat)(hn:0<n)(hb:x<256)(hb1:y<256)(hb2:z<256)(hb3:t<256) :
  (Lib.decodeN n x y z t=(65533,1)/\¬(3<=n/\x=239/\y=191/\z=189)) ∨
  (Lib.decodeN n x y z t≠(65533,1)/\runeLenF (Lib.decodeN n x y z t).1=(Lib.decodeN n x y z t).2/\((Lib.decodeN n x y z t).1=65533->(3<=n/\x=239/\y=191/\z=189))):=by
 have nope:∀a b:Nat,(a≠65533∨b≠1)->(a,b)≠(65533,1):=fun a b h e=>by
  rw[Prod.mk.injEq]at e
  omega
 unfold Lib.decodeN
 repeat' split
 all_goals first
  |exact .inl ⟨rfl,by omega⟩
  |(refine .inr ⟨nope _ _ (by omega),?_,fun h=>by simp only at h; omega⟩
    unfold runeLenF
    simp only
    repeat' split
    all_goals omega)
theorem decF_good (s:ByteArray)(h:0<s.size):decF s=goodN (Utf8.decode s 0):=by
 unfold decF
 rw[if_neg (by omega),hasPF_eq,Lib.decode_at]
 simp only[get!_byteN,decide_eq_false_iff_not,Nat.zero_add]
 have sh:=decN_shape (s.size-0) (byteN s 0) (byteN s 1) (byteN s 2) (byteN s 3) (by omega) (byteN_lt s 0) (byteN_lt s 1) (byteN_lt s 2) (byteN_lt s 3)
 generalize Lib.decodeN (s.size-0) (byteN s 0) (byteN s 1) (byteN s 2) (byteN s 3)=r at *
 unfold goodN
 rcases sh with⟨rfl,h2⟩|⟨h1,h2,h3⟩
 ·rw[if_pos rfl,if_pos ⟨rfl,by omega⟩]
 ·rw[if_neg h1,if_neg (by rintro⟨h4,h5⟩; exact h5 (by have:=h3 (by omega); omega)),h2]
end Go.Proofs.YtcgmpcbkndpmbaaGreatDoor

end
section
open Go Go.Proofs Go.Pw
namespace Go.Proofs.YtcgmpcbkndpmbaaGreatDoor
set_option maxRecDepth 4000
set_option linter.unusedVariables false
set_option linter.unusedSimpArgs false
attribute [local go_sem] Nat.le_refl Tryz.results15 Tryz.results31 encI_len encI_take
theorem dec_pos (s:ByteArray)(i:Nat)(h:i<s.size):1<=(Utf8.decode s i).2/\i+(Utf8.decode s i).2<=s.size:=by
 refine⟨Lib.decode_width_pos s i h,?_⟩
 rw[Lib.decode_at]
 have:=Lib.decodeN_width_le (s.size-i) (s.get! i).toNat (s.get! (i+1)).toNat (s.get! (i+2)).toNat (s.get! (i+3)).toNat (by omega)
 omega
def scan (s:ByteArray)(i:Nat):List Int×Nat:=
 if h:i<s.size then
  if Utf8.decode s i=(65533,1) then([],i) else(((Utf8.decode s i).1:Int)::(scan s (i+(Utf8.decode s i).2)).1,(scan s (i+(Utf8.decode s i).2)).2)
 else([],i)
termination_by s.size-i
decreasing_by all_goals (have:=dec_pos s i h; omega)
theorem scan_end {s:ByteArray}{i:Nat}(h:¬i<s.size):scan s i=([],i):=by rw[scan,dif_neg h]
theorem scan_bad {s:ByteArray}{i:Nat}(h:i<s.size)(hb:Utf8.decode s i=(65533,1)):scan s i=([],i):=by rw[scan,dif_pos h,if_pos hb]
theorem scan_step {s:ByteArray}{i:Nat}(h:i<s.size)(hb:¬Utf8.decode s i=(65533,1)):scan s i=(((Utf8.decode s i).1:Int)::(scan s (i+(Utf8.decode s i).2)).1,(scan s (i+(Utf8.decode s i).2)).2):=by rw[scan,dif_pos h,if_neg hb]
theorem scan_len (s:ByteArray)(i:Nat)(hi:i<=s.size):i<=(scan s i).2/\(scan s i).2<=s.size/\(scan s i).1.length<=s.size-i:=by
 by_cases h:i<s.size
 ·by_cases hb:Utf8.decode s i=(65533,1)
  ·rw[scan_bad h hb]; exact⟨by simp,by simpa using hi,by simp⟩
  ·have hp:=dec_pos s i h
   have ih:=scan_len s (i+(Utf8.decode s i).2) hp.2
   rw[scan_step h hb]
   simp only[List.length_cons]
   omega
 ·rw[scan_end h]; exact⟨by simp,by simpa using hi,by simp⟩
termination_by s.size-i
theorem first_good {s:ByteArray}{i:Nat}(h:i<s.size)(hb:¬Utf8.decode s i=(65533,1)):firstF s i 4 1=(((Utf8.decode s i).1:Int),((Utf8.decode s i).2:Int)):=by rw[first_decode s i h,goodN,if_neg hb]
theorem first_bad {s:ByteArray}{i:Nat}(h:i<s.size)(hb:Utf8.decode s i=(65533,1)):firstF s i 4 1=(-1,0):=by rw[first_decode s i h,goodN,if_pos hb]
theorem decF_tail {s:ByteArray}{i:Nat}(h:i<s.size):decF (s.extract i s.size)=goodN (Utf8.decode s i):=by
 rw[decF_good _ (by rw[Lib.tail_size]; omega),Lib.tail_decode,Nat.add_zero]
def rptsS (s:ByteArray)(i k:Nat)(xs:List Int):PS:=
 ⟨[(4,rowI k xs),(5,vI i),(0,vS s)],[],tokI k 3 xs,0,k+1⟩
set_option maxHeartbeats 4000000 in
theorem rpoints_ok (s:ByteArray)(hs:s.size<=1000000):Ok Tryz.prog 31 [vS s] (.tup [.sl (encI (scan s 0).1),vI (scan s 0).2]):=by
 refine Ok.of_pwp (by kernel_rfl) Tryz.func31 rfl (by kernel_rfl) (by kernel_rfl) ?_
 generalize hr:scan s 0=r
 simp -implicitDefEqProofs (disch:=omega) only[go_sem,simprocAttr, ↓ix_enc]
 refine p_loop (ι:={ p:Nat×Nat×List Int // p.1<=s.size/\p.2.2.length<=p.1/\r=(p.2.2++(scan s p.1).1,(scan s p.1).2) }) (fun p=>rptsS s p.1.1 p.1.2.1 p.1.2.2) (fun p=>s.size-p.1.1) ⟨(0,0,[]),Nat.zero_le _,Nat.zero_le _,by simp[hr]⟩ ?_ ?_
 ·simp only[rptsS,rowI,tokI]
  constructor<;>simp only[go_sem,simprocAttr,decide_eq_true_eq,Int.natCast_zero]<;>try ((repeat' apply And.intro)<;>first|rfl|omega|(congr 3; omega)|(congr 2; omega))
 ·rintro⟨⟨i,k,xs⟩,h1,h2,h3⟩
  simp only at h1 h2 h3
  simp only[rptsS]
  simp -implicitDefEqProofs (disch:=omega) only[go_sem,simprocAttr, ↓ix_enc]
  with_reducible refine ifK_split (fun hlt=>?_) (fun hge=>?_)
  ·have hlt':i<s.size:=by omega
   have f:=first_ok s i (by omega) (by omega) (by omega)
   by_cases hb:Utf8.decode s i=(65533,1)
   ·rw[first_bad hlt' hb]at f
    rw[scan_bad hlt' hb]at h3
    simp -implicitDefEqProofs (disch:=omega) only[go_sem,simprocAttr, ↓ix_enc]
    with_reducible refine CallOk.of f rfl ?_
    simp -implicitDefEqProofs (disch:=omega) only[go_sem,simprocAttr, ↓ix_enc]
    simp only[List.append_nil]at h3
    cases xs with
    |nil=>
     simp only[rowI]
     simp -implicitDefEqProofs (disch:=omega) only[go_sem,simprocAttr, ↓ix_enc]
     rw[h3]; rfl
    |cons x q=>
     simp only[rowI]
     simp -implicitDefEqProofs (disch:=omega) only[go_sem,simprocAttr, ↓ix_enc]
     rw[h3]
   ·rw[first_good hlt' hb]at f
    have hp:=dec_pos s i hlt'
    rw[scan_step hlt' hb]at h3
    generalize Utf8.decode s i=d at *
    simp -implicitDefEqProofs (disch:=omega) only[go_sem,simprocAttr, ↓ix_enc]
    with_reducible refine CallOk.of f rfl ?_
    have hd0:¬((d.2:Int)=0):=by omega
    cases xs with
    |nil=>
     simp only[rowI,tokI]
     simp -implicitDefEqProofs (disch:=omega) only[go_sem,simprocAttr, ↓ix_enc]
     refine⟨⟨(i+d.2,k+1+4+8+2+3,[(d.1:Int)]),by simp only; omega,by simp only[List.length_singleton]; omega,by simpa using h3⟩,by simp only; omega,?_⟩
     simp only[rptsS,rowI,tokI,<-encI_one]
     constructor<;>simp only[go_sem,simprocAttr,decide_eq_true_eq,Int.natCast_add,List.length_singleton,ite_self]<;>try ((repeat' apply And.intro)<;>first|rfl|omega|(congr 3; omega)|(congr 2; omega))
    |cons x q=>
     simp only[List.length_cons]at h2
     have hq:q.length<=1000000:=by omega
     simp only[rowI,tokI]
     simp -implicitDefEqProofs (disch:=omega) only[go_sem,simprocAttr, ↓ix_enc]
     refine⟨⟨(i+d.2,k,x::(q++[(d.1:Int)])),by simp only; omega,by simp only[List.length_cons,List.length_append,List.length_nil]; omega,by simpa using h3⟩,by simp only; omega,?_⟩
     simp only[rptsS,rowI,tokI]
     constructor<;>simp only[go_sem,simprocAttr,decide_eq_true_eq,Int.natCast_add,encI_snoc,List.cons_append,List.length_cons,List.length_append,List.length_singleton]<;>try ((repeat' apply And.intro)<;>first|rfl|omega|(congr 3; omega)|(congr 2; omega))
  ·rw[scan_end (by omega)]at h3
   simp only[List.append_nil]at h3
   cases xs with
   |nil=>
    simp only[rowI]
    simp -implicitDefEqProofs (disch:=omega) only[go_sem,simprocAttr, ↓ix_enc]
    rw[h3]; rfl
   |cons x q=>
    simp only[rowI]
    simp -implicitDefEqProofs (disch:=omega) only[go_sem,simprocAttr, ↓ix_enc]
    rw[h3]
theorem rvalid_ok (s:ByteArray)(hs:s.size<=1000000):Ok Tryz.prog 15 [vS s] (vB (decide ((scan s 0).2=s.size))):=by
 have e:decide (((scan s 0).2:Int)=(s.size:Int))=decide ((scan s 0).2=s.size):=decide_eq_decide.2 (by omega)
 rw[<-e]
 refine Ok.of_pwp (by kernel_rfl) Tryz.func15 rfl (by kernel_rfl) (by kernel_rfl) ?_
 simp -implicitDefEqProofs (disch:=omega) only[go_sem,simprocAttr, ↓ix_enc]
 with_reducible refine CallOk.of (rpoints_ok s hs) rfl ?_
 simp -implicitDefEqProofs (disch:=omega) only[go_sem,simprocAttr, ↓ix_enc]
end Go.Proofs.YtcgmpcbkndpmbaaGreatDoor

end
section
open Go Go.Proofs Go.Pw Go.RowKit
namespace Go.Proofs.YtcgmpcbkndpmbaaGreatDoor
set_option maxRecDepth 4000
set_option linter.unusedVariables false
set_option linter.unusedSimpArgs false
attribute [local go_sem] Nat.le_refl Tryz.results103 Tryz.results67 Tryz.results69 Tryz.results86
def ixB (some:ByteArray)(c:Int):Int:=Lib.indexByte some.data.toList c.toNat.toUInt8
def hasF (s some:ByteArray)(i:Nat):Bool:=decide (i<s.size)&&decide (0<=ixB some (bt s i))
def LexQ (s:ByteArray)(j:Nat)(R r:PV)(st:PS):Prop:=r=R/\st.heap=[(0,.box 94 [vS s,vI j])]/\st.toks=[]/\st.nx=1
def Lexes (g:FuncId)(ags:List PV)(s:ByteArray)(i j:Nat)(R:PV):Prop:=OkI Tryz.prog g (.ptr 0 0::ags) ⟨[],[(0,.box 94 [vS s,vI i])],[],1,0⟩ (LexQ s j R)
theorem Lexes.at {g:FuncId}{ags:List PV}{s:ByteArray}{i j:Nat}{R:PV}(h:Lexes g ags s i j R)(k:Nat){st:PS}(hag:PV.ltL 0 0 ags=true)(hR:R.lt 0 0=true)(hk:k<st.nx)(ho:lkp st.heap k=some (.box 94 [vS s,vI i])) :
  OkI Tryz.prog g (.ptr k 0::ags) st (fun r st'=>r=R/\∃nt',st.nt<=nt'/\st'=⟨st.env,(k,.box 94 [vS s,vI j])::dropH [k] st.heap,st.toks,st.nx,nt'⟩):=
 OkI.on1 k h hk rfl rfl hag hR ho
set_option maxHeartbeats 4000000 in
theorem has_ok (s some:ByteArray)(i:Nat)(hi:i<=s.size)(hs:s.size<=1000000):Lexes 69 [vS some] s i i (vB (hasF s some i)):=by
 refine OkI.of_pwp (by kernel_rfl) Tryz.func69 rfl (by kernel_rfl) (by kernel_rfl) ?_
 by_cases h:i<s.size
 ·have c:=indexByte_ok some (bt s i)
  have hh:hasF s some i=decide (0<=ixB some (bt s i)):=by unfold hasF; rw[decide_eq_true h]; rfl
  rw[hh]
  simp -implicitDefEqProofs (disch:=omega) only[go_sem,simprocAttr]
  with_reducible refine CallOk.of c rfl ?_
  simp -implicitDefEqProofs (disch:=omega) only[go_sem,simprocAttr]
  refine⟨⟨[],[(0,.box 94 [vS s,vI i])],[],1,0⟩,⟨rfl,rfl,rfl,rfl⟩,?_⟩
  constructor<;>simp only[go_sem,simprocAttr,decide_eq_true_eq]<;>try ((repeat' apply And.intro)<;>first|rfl|omega|(congr 3; omega)|(congr 2; omega))
 ·have hh:hasF s some i=false:=by unfold hasF; rw[decide_eq_false h]; rfl
  rw[hh]
  simp -implicitDefEqProofs (disch:=omega) only[go_sem,simprocAttr]
  refine⟨⟨[],[(0,.box 94 [vS s,vI i])],[],1,0⟩,⟨rfl,rfl,rfl,rfl⟩,?_⟩
  constructor<;>simp only[go_sem,simprocAttr,decide_eq_true_eq]<;>try ((repeat' apply And.intro)<;>first|rfl|omega|(congr 3; omega)|(congr 2; omega))
theorem hasF_lt {s some:ByteArray}{i:Nat}(h:hasF s some i=true):i<s.size:=by unfold hasF at h; simp at h; exact h.1
set_option maxHeartbeats 4000000 in
theorem one_ok (s some:ByteArray)(i:Nat)(hi:i<=s.size)(hs:s.size<=1000000):Lexes 86 [vS some] s i (if hasF s some i=true then i+1 else i) (vB (hasF s some i)):=by
 refine OkI.of_pwp (by kernel_rfl) Tryz.func86 rfl (by kernel_rfl) (by kernel_rfl) ?_
 have c:=has_ok s some i hi hs
 simp -implicitDefEqProofs (disch:=omega) only[go_sem,simprocAttr,dropH,inL]
 refine CallOk.ofI (c.at (st:=⟨[],_,_,_,_⟩) 0 rfl rfl (by simp) (by rfl)) rfl rfl rfl rfl ?_
 rintro r st' ⟨rfl,nt1,q1,rfl⟩
 cases hh:hasF s some i with
 |false=>
  simp -implicitDefEqProofs (disch:=omega) only[go_sem,simprocAttr,dropH,inL,hh]
  refine⟨⟨[],[(0,.box 94 [vS s,vI i])],[],1,0⟩,⟨rfl,rfl,rfl,rfl⟩,?_⟩
  constructor<;>simp only[go_sem,simprocAttr,decide_eq_true_eq]<;>try ((repeat' apply And.intro)<;>first|rfl|omega|(congr 3; omega)|(congr 2; omega))
 |true=>
  have:=hasF_lt hh
  simp -implicitDefEqProofs (disch:=omega) only[go_sem,simprocAttr,dropH,inL,hh]
  refine⟨⟨[],[(0,.box 94 [vS s,vI (i+1:Nat)])],[],1,0⟩,⟨rfl,rfl,rfl,rfl⟩,?_⟩
  constructor<;>simp only[go_sem,simprocAttr,decide_eq_true_eq,Int.natCast_add,Int.natCast_one]<;>try ((repeat' apply And.intro)<;>first|rfl|omega|(congr 3; omega)|(congr 2; omega))
def passF (s some:ByteArray)(i:Nat):Nat:=if h:hasF s some i=true then passF s some (i+1) else i
termination_by s.size-i
decreasing_by have:=hasF_lt h; omega
theorem passF_t {s some:ByteArray}{i:Nat}(h:hasF s some i=true):passF s some i=passF s some (i+1):=by rw[passF,dif_pos h]
theorem passF_f {s some:ByteArray}{i:Nat}(h:hasF s some i=false):passF s some i=i:=by rw[passF,dif_neg (by rw[h]; decide)]
theorem passF_le (s some:ByteArray)(i:Nat)(hi:i<=s.size):i<=passF s some i/\passF s some i<=s.size:=by
 cases h:hasF s some i with
 |true=>
  have:=hasF_lt h
  have:=passF_le s some (i+1) (by omega)
  rw[passF_t h]; omega
 |false=>rw[passF_f h]; omega
termination_by s.size-i
set_option maxHeartbeats 4000000 in
theorem pass_ok (s some:ByteArray)(i:Nat)(hi:i<=s.size)(hs:s.size<=1000000):Lexes 67 [vS some] s i (passF s some i) (vI ((passF s some i:Int)-i)):=by
 refine OkI.of_pwp (by kernel_rfl) Tryz.func67 rfl (by kernel_rfl) (by kernel_rfl) ?_
 simp -implicitDefEqProofs (disch:=omega) only[go_sem,simprocAttr,dropH,inL]
 refine p_loop (ι:={ p:Nat×Nat // i<=p.1/\p.1<=s.size/\passF s some p.1=passF s some i }) (fun p=>⟨[(5,vI i),(0,.ptr 0 0),(1,vS some)],[(0,.box 94 [vS s,vI p.1.1])],[],1,p.1.2⟩) (fun p=>s.size-p.1.1) ⟨(i,0),Nat.le_refl _,hi,rfl⟩ ?_ ?_
 ·constructor<;>simp only[go_sem,simprocAttr,decide_eq_true_eq]<;>try ((repeat' apply And.intro)<;>first|rfl|omega|(congr 3; omega)|(congr 2; omega))
 ·rintro⟨⟨j,nt⟩,h1,h2,h3⟩
  simp only at h1 h2 h3 ⊢
  have c:=has_ok s some j h2 hs
  simp -implicitDefEqProofs (disch:=omega) only[go_sem,simprocAttr,dropH,inL]
  refine CallOk.ofI (c.at (st:=⟨[],_,_,_,_⟩) 0 rfl rfl (by simp) (by rfl)) rfl rfl rfl rfl ?_
  rintro r st' ⟨rfl,nt1,q1,rfl⟩
  simp only at q1
  cases hh:hasF s some j with
  |false=>
   rw[passF_f hh]at h3
   simp -implicitDefEqProofs (disch:=omega) only[go_sem,simprocAttr,dropH,inL,hh]
   rw[<-h3]
   refine⟨⟨[],[(0,.box 94 [vS s,vI j])],[],1,0⟩,⟨rfl,rfl,rfl,rfl⟩,?_⟩
   constructor<;>simp only[go_sem,simprocAttr,decide_eq_true_eq]<;>try ((repeat' apply And.intro)<;>first|rfl|omega|(congr 3; omega)|(congr 2; omega))
  |true=>
   have:=hasF_lt hh
   simp -implicitDefEqProofs (disch:=omega) only[go_sem,simprocAttr,dropH,inL,hh]
   refine⟨⟨(j+1,nt),by simp only; omega,by simp only; omega,by rw[<-h3,passF_t hh]⟩,by simp only; omega,?_⟩
   constructor<;>simp only[go_sem,simprocAttr,decide_eq_true_eq,Int.natCast_add,Int.natCast_one]<;>try ((repeat' apply And.intro)<;>first|rfl|omega|(congr 3; omega)|(congr 2; omega))
abbrev hxS:ByteArray:=⟨#[48,49,50,51,52,53,54,55,56,57,97,98,99,100,101,102,48,49,50,51,52,53,54,55,56,57,65,66,67,68,69,70]⟩
def hexF (s:ByteArray):Nat->Nat->Int->Int×Bool×Nat
 |0,i,n=>(n,true,i)
 |k+1,i,n=>if hasF s hxS i=true then hexF s k (i+1) (n*16+(ixB hxS (bt s i)).tmod 16) else(0,false,i)
theorem ixB_facts:∀c:Fin 256, -1<=Lib.indexByte hxS.data.toList c.1.toUInt8/\Lib.indexByte hxS.data.toList c.1.toUInt8<32:=by decide +kernel
set_option maxHeartbeats 4000000 in
theorem hex_ok (s:ByteArray)(i:Nat)(hi:i<=s.size)(hs:s.size<=1000000):Lexes 103 [] s i (hexF s 4 i 0).2.2 (.tup [vI (hexF s 4 i 0).1,vB (hexF s 4 i 0).2.1]):=by
 refine OkI.of_pwp (by kernel_rfl) Tryz.func103 rfl (by kernel_rfl) (by kernel_rfl) ?_
 simp -implicitDefEqProofs (disch:=omega) only[go_sem,simprocAttr,dropH,inL]
 refine p_loop (ι:={ p:Nat×Nat×Int×Nat // p.1<=4/\p.2.1<=s.size/\0<=p.2.2.1/\p.2.2.1<16^p.1/\hexF s (4-p.1) p.2.1 p.2.2.1=hexF s 4 i 0 }) (fun p=>⟨[(5,vI p.1.1),(4,vI p.1.2.2.1),(0,.ptr 0 0)],[(0,.box 94 [vS s,vI p.1.2.1])],[],1,p.1.2.2.2⟩) (fun p=>4-p.1.1) ⟨(0,i,0,0),Nat.zero_le _,hi,Int.le_refl _,by simp,rfl⟩ ?_ ?_
 ·constructor<;>simp only[go_sem,simprocAttr,decide_eq_true_eq,Int.natCast_zero]<;>try ((repeat' apply And.intro)<;>first|rfl|omega|(congr 3; omega)|(congr 2; omega))
 ·rintro⟨⟨k,j,n,nt⟩,h1,h2,h3,h4,h5⟩
  simp only at h1 h2 h3 h4 h5 ⊢
  have h6:(16:Int)^k<=65536:=by
   have:k=0∨k=1∨k=2∨k=3∨k=4:=by omega
   rcases this with rfl|rfl|rfl|rfl|rfl<;>decide
  by_cases hk:k<4
  ·have c:=has_ok s hxS j h2 hs
   simp -implicitDefEqProofs (disch:=omega) only[go_sem,simprocAttr,dropH,inL]
   refine CallOk.ofI (c.at (st:=⟨[],_,_,_,_⟩) 0 rfl rfl (by simp) (by rfl)) rfl rfl rfl rfl ?_
   rintro r st' ⟨rfl,nt1,q1,rfl⟩
   simp only at q1
   have e4:4-k=(4-(k+1))+1:=by omega
   rw[e4,hexF]at h5
   cases hh:hasF s hxS j with
   |false=>
    rw[if_neg (by rw[hh]; decide)]at h5
    rw[<-h5]
    simp -implicitDefEqProofs (disch:=omega) only[go_sem,simprocAttr,dropH,inL,hh]
    refine⟨⟨[],[(0,.box 94 [vS s,vI j])],[],1,0⟩,⟨rfl,rfl,rfl,rfl⟩,?_⟩
    constructor<;>simp only[go_sem,simprocAttr,decide_eq_true_eq]<;>try ((repeat' apply And.intro)<;>first|rfl|omega|(congr 3; omega)|(congr 2; omega))
   |true=>
    rw[if_pos hh]at h5
    have:=hasF_lt hh
    have hb:=bt_range s j
    have ci:=indexByte_ok hxS (bt s j)
    have hf:=ixB_facts ⟨(bt s j).toNat,by omega⟩
    simp only at hf
    unfold ixB at h5
    unfold hasF ixB at hh
    have hz0:0<=Lib.indexByte hxS.data.toList (bt s j).toNat.toUInt8:=by simp at hh; exact hh.2
    have hh:hasF s hxS j=true:=by unfold hasF ixB; exact hh
    generalize hgz:Lib.indexByte hxS.data.toList (bt s j).toNat.toUInt8=z at *
    simp -implicitDefEqProofs (disch:=omega) only[go_sem,simprocAttr,dropH,inL,hh]
    with_reducible refine CallOk.of ci rfl ?_
    have hm:0<=z.tmod 16/\z.tmod 16<16:=by rw[Int.tmod_eq_emod_of_nonneg hz0]; omega
    have h7:(16:Int)^(k+1)=16^k*16:=Int.pow_succ 16 k
    have h8:(16:Int)^k<=4096:=by
     have:k=0∨k=1∨k=2∨k=3:=by omega
     rcases this with rfl|rfl|rfl|rfl<;>decide
    have h9:IntKind.wrap .i64 (n*16+z.tmod 16)=n*16+z.tmod 16:=by rw[IntKind.wrap_i64]; omega
    simp -implicitDefEqProofs (disch:=omega) only[go_sem,simprocAttr,dropH,inL,h9]
    refine⟨⟨(k+1,j+1,n*16+z.tmod 16,nt),by simp only; omega,by simp only; omega,by simp only; omega,by simp only; omega,h5⟩,by simp only; omega,?_⟩
    constructor<;>simp only[go_sem,simprocAttr,decide_eq_true_eq,Int.natCast_add,Int.natCast_one]<;>try ((repeat' apply And.intro)<;>first|rfl|omega|(congr 3; omega)|(congr 2; omega))
  ·have hk4:k=4:=by omega
   subst hk4
   rw[show 4-4=0 from rfl,hexF]at h5
   rw[<-h5]
   simp -implicitDefEqProofs (disch:=omega) only[go_sem,simprocAttr,dropH,inL]
   refine⟨⟨[],[(0,.box 94 [vS s,vI j])],[],1,0⟩,⟨rfl,rfl,rfl,rfl⟩,?_⟩
   constructor<;>simp only[go_sem,simprocAttr,decide_eq_true_eq]<;>try ((repeat' apply And.intro)<;>first|rfl|omega|(congr 3; omega)|(congr 2; omega))
end Go.Proofs.YtcgmpcbkndpmbaaGreatDoor

end
section
open Go Go.Proofs Go.Pw Go.RowKit
namespace Go.Proofs.YtcgmpcbkndpmbaaGreatDoor
set_option maxRecDepth 4000
set_option linter.unusedVariables false
set_option linter.unusedSimpArgs false
attribute [local go_sem] Nat.le_refl Tryz.results104 Tryz.results105 Tryz.results88 Tryz.results90
theorem gis_ok (n:Int):Ok Tryz.prog 104 [vI n] (vB (isF n)):=by
 refine Ok.of_pwp (by kernel_rfl) Tryz.func104 rfl (by kernel_rfl) (by kernel_rfl) ?_
 simp -implicitDefEqProofs (disch:=omega) only[go_sem,simprocAttr]
 repeat' ((first
  |with_reducible refine ifK_split (fun _=>?_) (fun _=>?_))<;>try simp -implicitDefEqProofs (disch:=omega) only[go_sem,simprocAttr])
 all_goals (congr 2; simp only[isF]; first|(rw[eq_comm,decide_eq_false_iff_not]; omega)|(rw[eq_comm,decide_eq_true_eq]; omega)|(congr 1; apply propext; constructor<;>intro<;>omega))
def encF (n:Int):ByteArray:=if isF n then Utf8.encode n else⟨#[]⟩
theorem encode_ok (n:Int):Ok Tryz.prog 90 [vI n] (vS (encF n)):=by
 refine Ok.of_pwp (by kernel_rfl) Tryz.func90 rfl (by kernel_rfl) (by kernel_rfl) ?_
 unfold encF
 simp -implicitDefEqProofs (disch:=omega) only[go_sem,simprocAttr]
 with_reducible refine CallOk.of (gis_ok _) rfl ?_
 simp -implicitDefEqProofs (disch:=omega) only[go_sem,simprocAttr]
 with_reducible refine ifK_bsplit (fun h=>?_) (fun h=>?_)
 ·have h':isF n=false:=by simpa using h
  simp -implicitDefEqProofs (disch:=omega) only[go_sem,simprocAttr]
  rw[h']
  rfl
 ·have h':isF n=true:=by simpa using h
  rw[if_pos h']
  simp only[isF,decide_eq_true_eq]at h'
  have w:IntKind.i32.wrap n=n:=wrap32 (by omega) (by omega)
  simp -implicitDefEqProofs (disch:=omega) only[go_sem,simprocAttr,w]
def pairF (n m:Int):Int:=if 55296<=n/\n<56320/\56320<=m/\m<57344 then 65536+(n-55296)*1024+m-56320 else -1
theorem pair_ok (n m:Int)(hn:0<=n/\n<=65536)(hm:0<=m/\m<=65536):Ok Tryz.prog 105 [vI n,vI m] (vI (pairF n m)):=by
 refine Ok.of_pwp (by kernel_rfl) Tryz.func105 rfl (by kernel_rfl) (by kernel_rfl) ?_
 by_cases h:55296<=n/\n<56320/\56320<=m/\m<57344
 ·rw[pairF,if_pos h]
  simp -implicitDefEqProofs (disch:=omega) only[go_sem,simprocAttr]
 ·rw[pairF,if_neg h]
  by_cases h1:n<55296
  ·simp -implicitDefEqProofs (disch:=omega) only[go_sem,simprocAttr]
  by_cases h2:56320<=n
  ·simp -implicitDefEqProofs (disch:=omega) only[go_sem,simprocAttr]
  by_cases h3:m<56320
  ·simp -implicitDefEqProofs (disch:=omega) only[go_sem,simprocAttr]
  ·simp -implicitDefEqProofs (disch:=omega) only[go_sem,simprocAttr]
abbrev ltS:ByteArray:=⟨#[34,92,47,98,102,110,114,116]⟩
abbrev ptS:ByteArray:=⟨#[34,92,47,8,12,10,13,9]⟩
abbrev uS:ByteArray:=⟨#[117]⟩
abbrev bsS:ByteArray:=⟨#[92]⟩
def esc2 (s:ByteArray)(i:Nat)(n:Int)(e:Nat):Int×Int×Nat:=
 if isF n=true then(n,0,e) else
 if hasF s bsS e=true/\hasF s uS (e+1)=true/\(hexF s 4 (e+2) 0).2.1=true/\0<=pairF n (hexF s 4 (e+2) 0).1 then(pairF n (hexF s 4 (e+2) 0).1,0,(hexF s 4 (e+2) 0).2.2) else(0,3,i)
def escP (s:ByteArray)(i:Nat):Int×Int×Nat:=
 if hasF s ltS (i+1)=true then(bt ptS (ixB ltS (bt s (i+1:Nat))),0,i+2) else
 if hasF s uS (i+1)=true then(if(hexF s 4 (i+2) 0).2.1=true then esc2 s i (hexF s 4 (i+2) 0).1 (hexF s 4 (i+2) 0).2.2 else(0,1,(hexF s 4 (i+2) 0).2.2)) else(0,1,i+1)
theorem hexF_range (s:ByteArray):∀k i n,0<=n->i<=s.size->0<=(hexF s k i n).1/\(hexF s k i n).1<(n+1)*16^k/\i<=(hexF s k i n).2.2/\(hexF s k i n).2.2<=s.size
 |0,i,n,h,hi=>by rw[hexF]; simp only[Int.pow_zero]; omega
 |k+1,i,n,h,hi=>by
  have hp:(1:Int)<=16^k:=Int.pow_pos (by decide:(0:Int)<16)
  have hp2:(16:Int)^(k+1)=16^k*16:=Int.pow_succ 16 k
  rw[hexF]
  split
  ·rename_i hh
   have hlt:=hasF_lt hh
   have hm:0<=(ixB hxS (bt s i)).tmod 16/\(ixB hxS (bt s i)).tmod 16<16:=by
    have h0:0<=ixB hxS (bt s i):=by unfold hasF at hh; simp at hh; exact hh.2
    rw[Int.tmod_eq_emod_of_nonneg h0]; omega
   have ih:=hexF_range s k (i+1) (n*16+(ixB hxS (bt s i)).tmod 16) (by omega) (by omega)
   have h3:(n*16+(ixB hxS (bt s i)).tmod 16+1)*16^k<=(n+1)*16^(k+1):=by
    rw[hp2,show(n+1)*(16^k*16)=((n+1)*16)*16^k by rw[Int.mul_assoc,Int.mul_comm 16 (16^k)]]
    exact Int.mul_le_mul_of_nonneg_right (by omega) (by omega)
   refine⟨ih.1,by omega,by omega,ih.2.2.2⟩
  ·have:0<(n+1)*16^(k+1):=Int.mul_pos (by omega) (by omega)
   simp only
   omega
theorem hex4_range (s:ByteArray)(i:Nat)(hi:i<=s.size):0<=(hexF s 4 i 0).1/\(hexF s 4 i 0).1<65536/\i<=(hexF s 4 i 0).2.2/\(hexF s 4 i 0).2.2<=s.size:=by
 have:=hexF_range s 4 i 0 (Int.le_refl _) hi
 have h:(0+1:Int)*16^4=65536:=by decide
 omega
theorem ltS_facts:∀c:Fin 256, -1<=Lib.indexByte ltS.data.toList c.1.toUInt8/\Lib.indexByte ltS.data.toList c.1.toUInt8<8:=by decide +kernel
theorem hasF_ix {s some:ByteArray}{i:Nat}(h:hasF s some i=true):0<=ixB some (bt s i):=by unfold hasF at h; simp at h; exact h.2
set_option maxHeartbeats 8000000 in
theorem escape_ok (s:ByteArray)(i:Nat)(hi:i<s.size)(hs:s.size<=1000000):Lexes 88 [] s i (escP s i).2.2 (.tup [vI (escP s i).1,vI (escP s i).2.1]):=by
 have c1:=has_ok s ltS (i+1) (by omega) hs
 have c2:=one_ok s uS (i+1) (by omega) hs
 refine OkI.of_pwp (by kernel_rfl) Tryz.func88 rfl (by kernel_rfl) (by kernel_rfl) ?_
 simp -implicitDefEqProofs (disch:=omega) only[go_sem,simprocAttr,dropH,inL]
 refine CallOk.ofI (c1.at (st:=⟨[],_,_,_,_⟩) 0 rfl rfl (by simp) (by rfl)) rfl rfl rfl rfl ?_
 rintro r st' ⟨rfl,nt1,q1,rfl⟩
 cases h1:hasF s ltS (i+1)with
 |true=>
  have hE:escP s i=(bt ptS (ixB ltS (bt s (i+1:Nat))),0,i+2):=by unfold escP; rw[if_pos h1]
  rw[hE]
  have hl:=hasF_lt h1
  have h0:=hasF_ix h1
  have hb:=bt_range s (i+1:Nat)
  have ci:=indexByte_ok ltS (bt s (i+1:Nat))
  have hf:=ltS_facts ⟨(bt s (i+1:Nat)).toNat,by omega⟩
  have hp:=bt_range ptS (ixB ltS (bt s (i+1:Nat)))
  unfold ixB at h0 hp ⊢
  simp only at hf
  rw[Int.natCast_add,Int.natCast_one]at ci hf h0 hp ⊢
  generalize hz:Lib.indexByte ltS.data.toList (bt s ((i:Int)+1)).toNat.toUInt8=z at *
  simp -implicitDefEqProofs (disch:=omega) only[go_sem,simprocAttr,dropH,inL,h1]
  with_reducible refine CallOk.of ci rfl ?_
  have hw:IntKind.wrap .i64 (bt ⟨#[34,92,47,8,12,10,13,9]⟩ z)=bt ptS z:=by
   show IntKind.wrap .i64 (bt ptS z)=_
   rw[IntKind.wrap_i64]; omega
  simp -implicitDefEqProofs (disch:=omega) only[go_sem,simprocAttr,dropH,inL,hw]
  refine⟨by show z<8; omega,?_⟩
  refine⟨⟨[],[(0,.box 94 [vS s,vI (i+2:Nat)])],[],1,0⟩,⟨rfl,rfl,rfl,rfl⟩,?_⟩
  have e2:(((i+2:Nat):Int))=(i:Int)+1+1:=by omega
  rw[e2]
  constructor<;>simp only[go_sem,simprocAttr,decide_eq_true_eq,Int.natCast_add,Int.natCast_one]<;>try ((repeat' apply And.intro)<;>first|rfl|omega|(congr 3; omega)|(congr 2; omega))
 |false=>
  simp -implicitDefEqProofs (disch:=omega) only[go_sem,simprocAttr,dropH,inL,h1]
  refine CallOk.ofI (c2.at (st:=⟨[],_,_,_,_⟩) 0 rfl rfl (by simp) (by rfl)) rfl rfl rfl rfl ?_
  rintro r st' ⟨rfl,nt1,q1,rfl⟩
  cases h2:hasF s uS (i+1)with
  |false=>
   have hE:escP s i=(0,1,i+1):=by unfold escP; rw[if_neg (by rw[h1]; decide),if_neg (by rw[h2]; decide)]
   rw[hE]
   simp -implicitDefEqProofs (disch:=omega) only[go_sem,simprocAttr,dropH,inL,h2]
   refine⟨⟨[],[(0,.box 94 [vS s,vI (i+1:Nat)])],[],1,0⟩,⟨rfl,rfl,rfl,rfl⟩,?_⟩
   constructor<;>simp only[go_sem,simprocAttr,decide_eq_true_eq,Int.natCast_add,Int.natCast_one]<;>try ((repeat' apply And.intro)<;>first|rfl|omega|(congr 3; omega)|(congr 2; omega))
  |true=>
   have hl:=hasF_lt h2
   have c3:=hex_ok s (i+2) (by omega) hs
   have hr:=hex4_range s (i+2) (by omega)
   have hE:escP s i=(if(hexF s 4 (i+2) 0).2.1=true then esc2 s i (hexF s 4 (i+2) 0).1 (hexF s 4 (i+2) 0).2.2 else(0,1,(hexF s 4 (i+2) 0).2.2)):=by unfold escP; rw[if_neg (by rw[h1]; decide),if_pos h2]
   rw[hE]
   generalize hexF s 4 (i+2) 0=X at *
   obtain⟨n,b,e⟩:=X
   simp only at hr c3 ⊢
   simp -implicitDefEqProofs (disch:=omega) only[go_sem,simprocAttr,dropH,inL,h2]
   refine CallOk.ofI (c3.at (st:=⟨[],_,_,_,_⟩) 0 rfl rfl (by simp) (by rfl)) rfl rfl rfl rfl ?_
   rintro r st' ⟨rfl,nt1,q1,rfl⟩
   cases b with
   |false=>
    simp -implicitDefEqProofs (disch:=omega) only[go_sem,simprocAttr,dropH,inL]
    refine⟨⟨[],[(0,.box 94 [vS s,vI e])],[],1,0⟩,⟨rfl,rfl,rfl,rfl⟩,?_⟩
    constructor<;>simp only[go_sem,simprocAttr,decide_eq_true_eq,Int.natCast_add,Int.natCast_one]<;>try ((repeat' apply And.intro)<;>first|rfl|omega|(congr 3; omega)|(congr 2; omega))
   |true=>
    rw[if_pos rfl]
    unfold esc2
    simp -implicitDefEqProofs (disch:=omega) only[go_sem,simprocAttr,dropH,inL]
    with_reducible refine CallOk.of (gis_ok n) rfl ?_
    cases h3:isF n with
    |true=>
     rw[if_pos rfl]
     simp -implicitDefEqProofs (disch:=omega) only[go_sem,simprocAttr,dropH,inL]
     refine⟨⟨[],[(0,.box 94 [vS s,vI e])],[],1,0⟩,⟨rfl,rfl,rfl,rfl⟩,?_⟩
     constructor<;>simp only[go_sem,simprocAttr,decide_eq_true_eq,Int.natCast_add,Int.natCast_one]<;>try ((repeat' apply And.intro)<;>first|rfl|omega|(congr 3; omega)|(congr 2; omega))
    |false=>
     rw[if_neg (by decide)]
     have c4:=one_ok s bsS e (by omega) hs
     simp -implicitDefEqProofs (disch:=omega) only[go_sem,simprocAttr,dropH,inL]
     refine CallOk.ofI (c4.at (st:=⟨[],_,_,_,_⟩) 0 rfl rfl (by simp) (by rfl)) rfl rfl rfl rfl ?_
     rintro r st' ⟨rfl,nt1,q1,rfl⟩
     cases h4:hasF s bsS e with
     |false=>
      rw[if_neg (by simp)]
      simp -implicitDefEqProofs (disch:=omega) only[go_sem,simprocAttr,dropH,inL,h4]
      refine⟨⟨[],[(0,.box 94 [vS s,vI i])],[],1,0⟩,⟨rfl,rfl,rfl,rfl⟩,?_⟩
      constructor<;>simp only[go_sem,simprocAttr,decide_eq_true_eq,Int.natCast_add,Int.natCast_one]<;>try ((repeat' apply And.intro)<;>first|rfl|omega|(congr 3; omega)|(congr 2; omega))
     |true=>
      have hl4:=hasF_lt h4
      have c5:=one_ok s uS (e+1) (by omega) hs
      simp -implicitDefEqProofs (disch:=omega) only[go_sem,simprocAttr,dropH,inL,h4]
      refine CallOk.ofI (c5.at (st:=⟨[],_,_,_,_⟩) 0 rfl rfl (by simp) (by rfl)) rfl rfl rfl rfl ?_
      rintro r st' ⟨rfl,nt1,q1,rfl⟩
      cases h5:hasF s uS (e+1)with
      |false=>
       rw[if_neg (by simp)]
       simp -implicitDefEqProofs (disch:=omega) only[go_sem,simprocAttr,dropH,inL,h5]
       refine⟨⟨[],[(0,.box 94 [vS s,vI i])],[],1,0⟩,⟨rfl,rfl,rfl,rfl⟩,?_⟩
       constructor<;>simp only[go_sem,simprocAttr,decide_eq_true_eq,Int.natCast_add,Int.natCast_one]<;>try ((repeat' apply And.intro)<;>first|rfl|omega|(congr 3; omega)|(congr 2; omega))
      |true=>
       have hl5:=hasF_lt h5
       have c6:=hex_ok s (e+2) (by omega) hs
       have hr6:=hex4_range s (e+2) (by omega)
       generalize hexF s 4 (e+2) 0=Y at *
       obtain⟨m,b2,e3⟩:=Y
       simp only at hr6 c6 ⊢
       simp -implicitDefEqProofs (disch:=omega) only[go_sem,simprocAttr,dropH,inL,h5]
       refine CallOk.ofI (c6.at (st:=⟨[],_,_,_,_⟩) 0 rfl rfl (by simp) (by rfl)) rfl rfl rfl rfl ?_
       rintro r st' ⟨rfl,nt1,q1,rfl⟩
       cases b2 with
       |false=>
        rw[if_neg (by simp)]
        simp -implicitDefEqProofs (disch:=omega) only[go_sem,simprocAttr,dropH,inL]
        refine⟨⟨[],[(0,.box 94 [vS s,vI i])],[],1,0⟩,⟨rfl,rfl,rfl,rfl⟩,?_⟩
        constructor<;>simp only[go_sem,simprocAttr,decide_eq_true_eq,Int.natCast_add,Int.natCast_one]<;>try ((repeat' apply And.intro)<;>first|rfl|omega|(congr 3; omega)|(congr 2; omega))
       |true=>
        have cp:=pair_ok n m (by omega) (by omega)
        simp -implicitDefEqProofs (disch:=omega) only[go_sem,simprocAttr,dropH,inL]
        with_reducible refine CallOk.of cp rfl ?_
        by_cases h7:0<=pairF n m
        ·rw[if_pos (by simp[h7])]
         simp -implicitDefEqProofs (disch:=omega) only[go_sem,simprocAttr,dropH,inL,decide_eq_true h7]
         with_reducible refine CallOk.of cp rfl ?_
         simp -implicitDefEqProofs (disch:=omega) only[go_sem,simprocAttr,dropH,inL]
         refine⟨⟨[],[(0,.box 94 [vS s,vI e3])],[],1,0⟩,⟨rfl,rfl,rfl,rfl⟩,?_⟩
         constructor<;>simp only[go_sem,simprocAttr,decide_eq_true_eq,Int.natCast_add,Int.natCast_one]<;>try ((repeat' apply And.intro)<;>first|rfl|omega|(congr 3; omega)|(congr 2; omega))
        ·rw[if_neg (by simp[h7])]
         simp -implicitDefEqProofs (disch:=omega) only[go_sem,simprocAttr,dropH,inL,decide_eq_false h7]
         refine⟨⟨[],[(0,.box 94 [vS s,vI i])],[],1,0⟩,⟨rfl,rfl,rfl,rfl⟩,?_⟩
         constructor<;>simp only[go_sem,simprocAttr,decide_eq_true_eq,Int.natCast_add,Int.natCast_one]<;>try ((repeat' apply And.intro)<;>first|rfl|omega|(congr 3; omega)|(congr 2; omega))
end Go.Proofs.YtcgmpcbkndpmbaaGreatDoor

end
section
open Go Go.Proofs Go.Pw Go.RowKit
namespace Go.Proofs.YtcgmpcbkndpmbaaGreatDoor
set_option maxRecDepth 4000
set_option linter.unusedVariables false
set_option linter.unusedSimpArgs false
attribute [local go_sem] Nat.le_refl Tryz.results68 Tryz.results70
abbrev tkC (k:Int)(t:ByteArray)(n:Int)(a e:Nat):List PV:=[vI k,vS t,vI n,vI a,vI e]
def ReadQ (s:ByteArray)(j:Nat)(cs:List PV)(R:Int)(r:PV)(st:PS):Prop:=r=vI R/\st.heap=[(0,.box 94 [vS s,vI j]),(1,.box 67 cs)]/\st.toks=[]/\st.nx=2
def Reads (g:FuncId)(s:ByteArray)(i j:Nat)(cs cs':List PV)(R:Int):Prop:=OkI Tryz.prog g [.ptr 0 0,.ptr 1 0] ⟨[],[(0,.box 94 [vS s,vI i]),(1,.box 67 cs)],[],2,0⟩ (ReadQ s j cs' R)
theorem Reads.at {g:FuncId}{s:ByteArray}{i j:Nat}{cs cs':List PV}{R:Int}(h:Reads g s i j cs cs' R)(k m:Nat){st:PS}(hkm:k≠m)(hk:k<st.nx)(hm:m<st.nx)(hcs:PV.ltL 0 0 cs=true)(hcs':PV.ltL 0 0 cs'=true)(ho:lkp st.heap k=some (.box 94 [vS s,vI i]))(hp:lkp st.heap m=some (.box 67 cs)) :
  OkI Tryz.prog g [.ptr k 0,.ptr m 0] st (fun r st'=>r=vI R/\∃nt',st.nt<=nt'/\st'=⟨st.env,(k,.box 94 [vS s,vI j])::(m,.box 67 cs')::dropH [k,m] st.heap,st.toks,st.nx,nt'⟩):=
 OkI.on2 k m h hkm hk hm rfl rfl hcs hcs' rfl rfl ho hp
set_option maxHeartbeats 4000000 in
theorem mark_ok (s:ByteArray)(i:Nat)(hi:i<s.size)(hs:s.size<=1000000)(a:Nat):Reads 70 s i (i+1) (tkC 0 ByteArray.empty 0 a 0) (tkC 1 (s.extract i (i+1)) 0 a 0) 0:=by
 refine OkI.of_pwp (by kernel_rfl) Tryz.func70 rfl (by kernel_rfl) (by kernel_rfl) ?_
 have hx:((i:Int)+1).toNat=i+1:=by omega
 simp -implicitDefEqProofs (disch:=omega) only[go_sem,simprocAttr,dropH,inL,hx]
 refine⟨⟨[],[(0,.box 94 [vS s,vI (i+1:Nat)]),(1,.box 67 (tkC 1 (s.extract i (i+1)) 0 a 0))],[],2,0⟩,⟨rfl,rfl,rfl,rfl⟩,?_⟩
 constructor<;>simp only[go_sem,simprocAttr,decide_eq_true_eq,Int.natCast_add,Int.natCast_one]<;>try ((repeat' apply And.intro)<;>first|rfl|omega|(congr 3; omega)|(congr 2; omega))
def litF (s w:ByteArray):Nat->Nat->Nat->Bool×Nat
 |0,k,i=>(true,i)
 |f+1,k,i=>if hasF s (w.extract k (k+1)) i=true then litF s w f (k+1) (i+1) else(false,i)
abbrev wd1:ByteArray:=⟨#[116,114,117,101]⟩
abbrev wd2:ByteArray:=⟨#[102,97,108,115,101]⟩
abbrev wd3:ByteArray:=⟨#[110,117,108,108]⟩
def wordF (s:ByteArray)(i:Nat):Int×Int×Nat:=
 if hasF s ⟨#[116]⟩ i=true then(if(litF s wd1 4 0 i).1=true then(0,4,(litF s wd1 4 0 i).2) else(1,0,(litF s wd1 4 0 i).2)) else
 if hasF s ⟨#[102]⟩ i=true then(if(litF s wd2 5 0 i).1=true then(0,5,(litF s wd2 5 0 i).2) else(1,0,(litF s wd2 5 0 i).2)) else
 if hasF s ⟨#[110]⟩ i=true then(if(litF s wd3 4 0 i).1=true then(0,6,(litF s wd3 4 0 i).2) else(1,0,(litF s wd3 4 0 i).2)) else(1,0,i)
theorem x1:wd1.extract 0 1=⟨#[116]⟩:=by decide +kernel
theorem x2:wd2.extract 0 1=⟨#[102]⟩:=by decide +kernel
theorem x3:wd3.extract 0 1=⟨#[110]⟩:=by decide +kernel
theorem szw1:(((#[116,114,117,101]:Array UInt8).size:Nat):Int)=4:=rfl
theorem szw2:(((#[102,97,108,115,101]:Array UInt8).size:Nat):Int)=5:=rfl
theorem szw3:(((#[110,117,108,108]:Array UInt8).size:Nat):Int)=4:=rfl
set_option maxHeartbeats 8000000 in
theorem word_ok (s:ByteArray)(i:Nat)(hi:i<=s.size)(hs:s.size<=1000000)(a:Nat):Reads 68 s i (wordF s i).2.2 (tkC 0 ByteArray.empty 0 a 0) (tkC (wordF s i).2.1 ByteArray.empty 0 a 0) (wordF s i).1:=by
 refine OkI.of_pwp (by kernel_rfl) Tryz.func68 rfl (by kernel_rfl) (by kernel_rfl) ?_
 simp -implicitDefEqProofs (disch:=omega) only[go_sem,simprocAttr,dropH,inL,List.getD_cons_zero,List.getD_cons_succ,List.length_singleton,x1,x2,x3,szw1,szw2,szw3]
 refine p_loop (ι:={ p:Nat×Nat // p.1<=3/\(1<=p.1->hasF s ⟨#[116]⟩ i=false)/\(2<=p.1->hasF s ⟨#[102]⟩ i=false)/\(3<=p.1->hasF s ⟨#[110]⟩ i=false) }) (fun p=>⟨[(10,vI p.1.1),(9,vI 3),(8,.sl [[vS wd1],[vS wd2],[vS wd3]]),(0,.ptr 0 0),(1,.ptr 1 0)],[(0,.box 94 [vS s,vI i]),(1,.box 67 (tkC 0 ByteArray.empty 0 a 0))],[],2,p.1.2⟩) (fun p=>3-p.1.1) ⟨(0,0),Nat.zero_le _,fun h=>by simp at h,fun h=>by simp at h,fun h=>by simp at h⟩ ?_ ?_
 ·constructor<;>simp only[go_sem,simprocAttr,decide_eq_true_eq,Int.natCast_zero]<;>try ((repeat' apply And.intro)<;>first|rfl|omega|(congr 3; omega)|(congr 2; omega))
 ·rintro⟨⟨m,nt⟩,h0,h1,h2,h3⟩
  simp only at h0 h1 h2 h3 ⊢
  have hm:m=0∨m=1∨m=2∨m=3:=by omega
  rcases hm with rfl|rfl|rfl|rfl
  ·have c:=has_ok s ⟨#[116]⟩ i hi hs
   simp -implicitDefEqProofs (disch:=omega) only[go_sem,simprocAttr,dropH,inL,List.getD_cons_zero,List.getD_cons_succ,List.length_singleton,x1,x2,x3,szw1,szw2,szw3]
   refine CallOk.ofI (c.at (st:=⟨[],_,_,_,_⟩) 0 rfl rfl (by simp) (by rfl)) rfl rfl rfl rfl ?_
   rintro r st' ⟨rfl,nt1,q1,rfl⟩
   simp only at q1
   cases hh:hasF s ⟨#[116]⟩ i with
   |false=>
    simp -implicitDefEqProofs (disch:=omega) only[go_sem,simprocAttr,dropH,inL,List.getD_cons_zero,List.getD_cons_succ,List.length_singleton,x1,x2,x3,szw1,szw2,szw3,hh]
    refine⟨⟨(1,nt),by simp,fun _=>rfl,fun h=>by simp at h,fun h=>by simp at h⟩,by simp,?_⟩
    constructor<;>simp only[go_sem,simprocAttr,decide_eq_true_eq]<;>try ((repeat' apply And.intro)<;>first|rfl|omega|(congr 3; omega)|(congr 2; omega))
   |true=>
    have hE:wordF s i=(if(litF s wd1 4 0 i).1=true then(0,4,(litF s wd1 4 0 i).2) else(1,0,(litF s wd1 4 0 i).2)):=by unfold wordF; rw[if_pos hh]
    rw[hE]
    simp -implicitDefEqProofs (disch:=omega) only[go_sem,simprocAttr,dropH,inL,List.getD_cons_zero,List.getD_cons_succ,List.length_singleton,x1,x2,x3,szw1,szw2,szw3,hh]
    refine p_loop (ι:={ p:Nat×Nat×Nat // p.1<=4/\p.2.1<=s.size/\litF s wd1 (4-p.1) p.1 p.2.1=litF s wd1 4 0 i }) (fun p=>⟨[(22,vI p.1.1),(21,vI 4),(6,vS wd1),(5,vI 0),(0,.ptr 0 0),(1,.ptr 1 0)],[(0,.box 94 [vS s,vI p.1.2.1]),(1,.box 67 (tkC 0 ByteArray.empty 0 a 0))],[],2,p.1.2.2⟩) (fun p=>4-p.1.1) ⟨(0,i,nt),Nat.zero_le _,hi,rfl⟩ ?_ ?_
    ·constructor<;>simp only[go_sem,simprocAttr,decide_eq_true_eq,Int.natCast_zero]<;>try ((repeat' apply And.intro)<;>first|rfl|omega|(congr 3; omega)|(congr 2; omega))
    ·rintro⟨⟨k,j,nt⟩,g1,g2,g3⟩
     simp only at g1 g2 g3 ⊢
     by_cases hk:k<4
     ·have c2:=one_ok s (wd1.extract k (k+1)) j g2 hs
      have hkx:((k:Int)+1).toNat=k+1:=by omega
      rw[show 4-k=(4-(k+1))+1 by omega,litF]at g3
      simp -implicitDefEqProofs (disch:=omega) only[go_sem,simprocAttr,dropH,inL,List.getD_cons_zero,List.getD_cons_succ,List.length_singleton,x1,x2,x3,szw1,szw2,szw3,hkx]
      refine CallOk.ofI (c2.at (st:=⟨[],_,_,_,_⟩) 0 rfl rfl (by simp) (by rfl)) rfl rfl rfl rfl ?_
      rintro r st' ⟨rfl,nt1,q1,rfl⟩
      simp only at q1
      cases hh2:hasF s (wd1.extract k (k+1)) j with
      |true=>
       have hl2:=hasF_lt hh2
       rw[if_pos hh2]at g3
       simp -implicitDefEqProofs (disch:=omega) only[go_sem,simprocAttr,dropH,inL,List.getD_cons_zero,List.getD_cons_succ,List.length_singleton,x1,x2,x3,szw1,szw2,szw3,hh2]
       refine⟨⟨(k+1,j+1,nt),hk,hl2,g3⟩,by simp only; omega,?_⟩
       constructor<;>simp only[go_sem,simprocAttr,decide_eq_true_eq,Int.natCast_add,Int.natCast_one]<;>try ((repeat' apply And.intro)<;>first|rfl|omega|(congr 3; omega)|(congr 2; omega))
      |false=>
       rw[if_neg (by rw[hh2]; decide)]at g3
       rw[<-g3]
       simp -implicitDefEqProofs (disch:=omega) only[go_sem,simprocAttr,dropH,inL,List.getD_cons_zero,List.getD_cons_succ,List.length_singleton,x1,x2,x3,szw1,szw2,szw3,hh2]
       refine⟨⟨[],[(0,.box 94 [vS s,vI j]),(1,.box 67 (tkC 0 ByteArray.empty 0 a 0))],[],2,0⟩,⟨rfl,rfl,rfl,rfl⟩,?_⟩
       constructor<;>simp only[go_sem,simprocAttr,decide_eq_true_eq,Int.natCast_add,Int.natCast_one]<;>try ((repeat' apply And.intro)<;>first|rfl|omega|(congr 3; omega)|(congr 2; omega))
     ·have hk4:k=4:=by omega
      subst hk4
      rw[show 4-4=0 from rfl,litF]at g3
      rw[<-g3]
      simp -implicitDefEqProofs (disch:=omega) only[go_sem,simprocAttr,dropH,inL,List.getD_cons_zero,List.getD_cons_succ,List.length_singleton,x1,x2,x3,szw1,szw2,szw3]
      refine⟨⟨[],[(0,.box 94 [vS s,vI j]),(1,.box 67 (tkC 4 ByteArray.empty 0 a 0))],[],2,0⟩,⟨rfl,rfl,rfl,rfl⟩,?_⟩
      constructor<;>simp only[go_sem,simprocAttr,decide_eq_true_eq,Int.natCast_add,Int.natCast_one]<;>try ((repeat' apply And.intro)<;>first|rfl|omega|(congr 3; omega)|(congr 2; omega))
  ·have c:=has_ok s ⟨#[102]⟩ i hi hs
   simp -implicitDefEqProofs (disch:=omega) only[go_sem,simprocAttr,dropH,inL,List.getD_cons_zero,List.getD_cons_succ,List.length_singleton,x1,x2,x3,szw1,szw2,szw3]
   refine CallOk.ofI (c.at (st:=⟨[],_,_,_,_⟩) 0 rfl rfl (by simp) (by rfl)) rfl rfl rfl rfl ?_
   rintro r st' ⟨rfl,nt1,q1,rfl⟩
   simp only at q1
   cases hh:hasF s ⟨#[102]⟩ i with
   |false=>
    simp -implicitDefEqProofs (disch:=omega) only[go_sem,simprocAttr,dropH,inL,List.getD_cons_zero,List.getD_cons_succ,List.length_singleton,x1,x2,x3,szw1,szw2,szw3,hh]
    refine⟨⟨(2,nt),by simp,fun _=>h1 (by decide),fun _=>rfl,fun h=>by simp at h⟩,by simp,?_⟩
    constructor<;>simp only[go_sem,simprocAttr,decide_eq_true_eq]<;>try ((repeat' apply And.intro)<;>first|rfl|omega|(congr 3; omega)|(congr 2; omega))
   |true=>
    have hE:wordF s i=(if(litF s wd2 5 0 i).1=true then(0,5,(litF s wd2 5 0 i).2) else(1,0,(litF s wd2 5 0 i).2)):=by unfold wordF; rw[if_neg (by rw[h1 (by decide)]; decide),if_pos hh]
    rw[hE]
    simp -implicitDefEqProofs (disch:=omega) only[go_sem,simprocAttr,dropH,inL,List.getD_cons_zero,List.getD_cons_succ,List.length_singleton,x1,x2,x3,szw1,szw2,szw3,hh]
    refine p_loop (ι:={ p:Nat×Nat×Nat // p.1<=5/\p.2.1<=s.size/\litF s wd2 (5-p.1) p.1 p.2.1=litF s wd2 5 0 i }) (fun p=>⟨[(22,vI p.1.1),(21,vI 5),(6,vS wd2),(5,vI 1),(0,.ptr 0 0),(1,.ptr 1 0)],[(0,.box 94 [vS s,vI p.1.2.1]),(1,.box 67 (tkC 0 ByteArray.empty 0 a 0))],[],2,p.1.2.2⟩) (fun p=>5-p.1.1) ⟨(0,i,nt),Nat.zero_le _,hi,rfl⟩ ?_ ?_
    ·constructor<;>simp only[go_sem,simprocAttr,decide_eq_true_eq,Int.natCast_zero]<;>try ((repeat' apply And.intro)<;>first|rfl|omega|(congr 3; omega)|(congr 2; omega))
    ·rintro⟨⟨k,j,nt⟩,g1,g2,g3⟩
     simp only at g1 g2 g3 ⊢
     by_cases hk:k<5
     ·have c2:=one_ok s (wd2.extract k (k+1)) j g2 hs
      have hkx:((k:Int)+1).toNat=k+1:=by omega
      rw[show 5-k=(5-(k+1))+1 by omega,litF]at g3
      simp -implicitDefEqProofs (disch:=omega) only[go_sem,simprocAttr,dropH,inL,List.getD_cons_zero,List.getD_cons_succ,List.length_singleton,x1,x2,x3,szw1,szw2,szw3,hkx]
      refine CallOk.ofI (c2.at (st:=⟨[],_,_,_,_⟩) 0 rfl rfl (by simp) (by rfl)) rfl rfl rfl rfl ?_
      rintro r st' ⟨rfl,nt1,q1,rfl⟩
      simp only at q1
      cases hh2:hasF s (wd2.extract k (k+1)) j with
      |true=>
       have hl2:=hasF_lt hh2
       rw[if_pos hh2]at g3
       simp -implicitDefEqProofs (disch:=omega) only[go_sem,simprocAttr,dropH,inL,List.getD_cons_zero,List.getD_cons_succ,List.length_singleton,x1,x2,x3,szw1,szw2,szw3,hh2]
       refine⟨⟨(k+1,j+1,nt),hk,hl2,g3⟩,by simp only; omega,?_⟩
       constructor<;>simp only[go_sem,simprocAttr,decide_eq_true_eq,Int.natCast_add,Int.natCast_one]<;>try ((repeat' apply And.intro)<;>first|rfl|omega|(congr 3; omega)|(congr 2; omega))
      |false=>
       rw[if_neg (by rw[hh2]; decide)]at g3
       rw[<-g3]
       simp -implicitDefEqProofs (disch:=omega) only[go_sem,simprocAttr,dropH,inL,List.getD_cons_zero,List.getD_cons_succ,List.length_singleton,x1,x2,x3,szw1,szw2,szw3,hh2]
       refine⟨⟨[],[(0,.box 94 [vS s,vI j]),(1,.box 67 (tkC 0 ByteArray.empty 0 a 0))],[],2,0⟩,⟨rfl,rfl,rfl,rfl⟩,?_⟩
       constructor<;>simp only[go_sem,simprocAttr,decide_eq_true_eq,Int.natCast_add,Int.natCast_one]<;>try ((repeat' apply And.intro)<;>first|rfl|omega|(congr 3; omega)|(congr 2; omega))
     ·have hk4:k=5:=by omega
      subst hk4
      rw[show 5-5=0 from rfl,litF]at g3
      rw[<-g3]
      simp -implicitDefEqProofs (disch:=omega) only[go_sem,simprocAttr,dropH,inL,List.getD_cons_zero,List.getD_cons_succ,List.length_singleton,x1,x2,x3,szw1,szw2,szw3]
      refine⟨⟨[],[(0,.box 94 [vS s,vI j]),(1,.box 67 (tkC 5 ByteArray.empty 0 a 0))],[],2,0⟩,⟨rfl,rfl,rfl,rfl⟩,?_⟩
      constructor<;>simp only[go_sem,simprocAttr,decide_eq_true_eq,Int.natCast_add,Int.natCast_one]<;>try ((repeat' apply And.intro)<;>first|rfl|omega|(congr 3; omega)|(congr 2; omega))
  ·have c:=has_ok s ⟨#[110]⟩ i hi hs
   simp -implicitDefEqProofs (disch:=omega) only[go_sem,simprocAttr,dropH,inL,List.getD_cons_zero,List.getD_cons_succ,List.length_singleton,x1,x2,x3,szw1,szw2,szw3]
   refine CallOk.ofI (c.at (st:=⟨[],_,_,_,_⟩) 0 rfl rfl (by simp) (by rfl)) rfl rfl rfl rfl ?_
   rintro r st' ⟨rfl,nt1,q1,rfl⟩
   simp only at q1
   cases hh:hasF s ⟨#[110]⟩ i with
   |false=>
    simp -implicitDefEqProofs (disch:=omega) only[go_sem,simprocAttr,dropH,inL,List.getD_cons_zero,List.getD_cons_succ,List.length_singleton,x1,x2,x3,szw1,szw2,szw3,hh]
    refine⟨⟨(3,nt),by simp,fun _=>h1 (by decide),fun _=>h2 (by decide),fun _=>rfl⟩,by simp,?_⟩
    constructor<;>simp only[go_sem,simprocAttr,decide_eq_true_eq]<;>try ((repeat' apply And.intro)<;>first|rfl|omega|(congr 3; omega)|(congr 2; omega))
   |true=>
    have hE:wordF s i=(if(litF s wd3 4 0 i).1=true then(0,6,(litF s wd3 4 0 i).2) else(1,0,(litF s wd3 4 0 i).2)):=by unfold wordF; rw[if_neg (by rw[h1 (by decide)]; decide),if_neg (by rw[h2 (by decide)]; decide),if_pos hh]
    rw[hE]
    simp -implicitDefEqProofs (disch:=omega) only[go_sem,simprocAttr,dropH,inL,List.getD_cons_zero,List.getD_cons_succ,List.length_singleton,x1,x2,x3,szw1,szw2,szw3,hh]
    refine p_loop (ι:={ p:Nat×Nat×Nat // p.1<=4/\p.2.1<=s.size/\litF s wd3 (4-p.1) p.1 p.2.1=litF s wd3 4 0 i }) (fun p=>⟨[(22,vI p.1.1),(21,vI 4),(6,vS wd3),(5,vI 2),(0,.ptr 0 0),(1,.ptr 1 0)],[(0,.box 94 [vS s,vI p.1.2.1]),(1,.box 67 (tkC 0 ByteArray.empty 0 a 0))],[],2,p.1.2.2⟩) (fun p=>4-p.1.1) ⟨(0,i,nt),Nat.zero_le _,hi,rfl⟩ ?_ ?_
    ·constructor<;>simp only[go_sem,simprocAttr,decide_eq_true_eq,Int.natCast_zero]<;>try ((repeat' apply And.intro)<;>first|rfl|omega|(congr 3; omega)|(congr 2; omega))
    ·rintro⟨⟨k,j,nt⟩,g1,g2,g3⟩
     simp only at g1 g2 g3 ⊢
     by_cases hk:k<4
     ·have c2:=one_ok s (wd3.extract k (k+1)) j g2 hs
      have hkx:((k:Int)+1).toNat=k+1:=by omega
      rw[show 4-k=(4-(k+1))+1 by omega,litF]at g3
      simp -implicitDefEqProofs (disch:=omega) only[go_sem,simprocAttr,dropH,inL,List.getD_cons_zero,List.getD_cons_succ,List.length_singleton,x1,x2,x3,szw1,szw2,szw3,hkx]
      refine CallOk.ofI (c2.at (st:=⟨[],_,_,_,_⟩) 0 rfl rfl (by simp) (by rfl)) rfl rfl rfl rfl ?_
      rintro r st' ⟨rfl,nt1,q1,rfl⟩
      simp only at q1
      cases hh2:hasF s (wd3.extract k (k+1)) j with
      |true=>
       have hl2:=hasF_lt hh2
       rw[if_pos hh2]at g3
       simp -implicitDefEqProofs (disch:=omega) only[go_sem,simprocAttr,dropH,inL,List.getD_cons_zero,List.getD_cons_succ,List.length_singleton,x1,x2,x3,szw1,szw2,szw3,hh2]
       refine⟨⟨(k+1,j+1,nt),hk,hl2,g3⟩,by simp only; omega,?_⟩
       constructor<;>simp only[go_sem,simprocAttr,decide_eq_true_eq,Int.natCast_add,Int.natCast_one]<;>try ((repeat' apply And.intro)<;>first|rfl|omega|(congr 3; omega)|(congr 2; omega))
      |false=>
       rw[if_neg (by rw[hh2]; decide)]at g3
       rw[<-g3]
       simp -implicitDefEqProofs (disch:=omega) only[go_sem,simprocAttr,dropH,inL,List.getD_cons_zero,List.getD_cons_succ,List.length_singleton,x1,x2,x3,szw1,szw2,szw3,hh2]
       refine⟨⟨[],[(0,.box 94 [vS s,vI j]),(1,.box 67 (tkC 0 ByteArray.empty 0 a 0))],[],2,0⟩,⟨rfl,rfl,rfl,rfl⟩,?_⟩
       constructor<;>simp only[go_sem,simprocAttr,decide_eq_true_eq,Int.natCast_add,Int.natCast_one]<;>try ((repeat' apply And.intro)<;>first|rfl|omega|(congr 3; omega)|(congr 2; omega))
     ·have hk4:k=4:=by omega
      subst hk4
      rw[show 4-4=0 from rfl,litF]at g3
      rw[<-g3]
      simp -implicitDefEqProofs (disch:=omega) only[go_sem,simprocAttr,dropH,inL,List.getD_cons_zero,List.getD_cons_succ,List.length_singleton,x1,x2,x3,szw1,szw2,szw3]
      refine⟨⟨[],[(0,.box 94 [vS s,vI j]),(1,.box 67 (tkC 6 ByteArray.empty 0 a 0))],[],2,0⟩,⟨rfl,rfl,rfl,rfl⟩,?_⟩
      constructor<;>simp only[go_sem,simprocAttr,decide_eq_true_eq,Int.natCast_add,Int.natCast_one]<;>try ((repeat' apply And.intro)<;>first|rfl|omega|(congr 3; omega)|(congr 2; omega))
  ·have hE:wordF s i=(1,0,i):=by unfold wordF; rw[if_neg (by rw[h1 (by decide)]; decide),if_neg (by rw[h2 (by decide)]; decide),if_neg (by rw[h3 (by decide)]; decide)]
   rw[hE]
   simp -implicitDefEqProofs (disch:=omega) only[go_sem,simprocAttr,dropH,inL,List.getD_cons_zero,List.getD_cons_succ,List.length_singleton,x1,x2,x3,szw1,szw2,szw3]
   refine⟨⟨[],[(0,.box 94 [vS s,vI i]),(1,.box 67 (tkC 0 ByteArray.empty 0 a 0))],[],2,0⟩,⟨rfl,rfl,rfl,rfl⟩,?_⟩
   constructor<;>simp only[go_sem,simprocAttr,decide_eq_true_eq]<;>try ((repeat' apply And.intro)<;>first|rfl|omega|(congr 3; omega)|(congr 2; omega))
end Go.Proofs.YtcgmpcbkndpmbaaGreatDoor

end
section
open Go Go.Proofs Go.Pw
namespace Go.Proofs.YtcgmpcbkndpmbaaGreatDoor
set_option maxRecDepth 4000
set_option linter.unusedVariables false
set_option linter.unusedSimpArgs false
attribute [local go_sem] Int.toNat_natCast Int.toNat_one Int.toNat_zero Nat.le_refl Tryz.results57
theorem allD_step {t:ByteArray}{k i:Nat}:(∀j,j<i->k<=j->isD (bt t j))->isD (bt t i)->∀j,j<i+1->k<=j->isD (bt t j):=fun h d j hj hk=>by
 by_cases e:j=i
 ·subst e; exact d
 ·exact h j (by omega) hk
theorem form_bad {s:ByteArray}{i:Nat}(hi:i<s.size)(hk:fromF s<=i)(h:¬isD (bt s i)):decide (formP s)=false:=decide_eq_false (fun k=>h (k.2.2 i hi hk))
set_option maxHeartbeats 4000000 in
theorem rform_ok (s:ByteArray)(hs:s.size<=1000000):Ok Tryz.prog 57 [vS s] (vB (decide (formP s))):=by
 have b0:=bt_rng s 0
 have b1:=bt_rng s 1
 refine Ok.of_pwp (by kernel_rfl) Tryz.func57 rfl (by kernel_rfl) (by kernel_rfl) ?_
 by_cases h0:s.size=0
 ·have e:decide (formP s)=false:=decide_eq_false (fun h=>by have:=h.1; omega)
  rw[e]
  have h0':(s.size:Int)=0:=by omega
  simp -implicitDefEqProofs (disch:=omega) only[go_sem,simprocAttr]
 have h0':¬(s.size:Int)=0:=by omega
 by_cases hb0:bt s 0=45
 ·have hf:fromF s=1:=by unfold fromF; rw[if_pos ⟨by omega,hb0⟩]
  by_cases h1:s.size=1
  ·have e:decide (formP s)=false:=decide_eq_false (fun h=>by have:=h.1; omega)
   rw[e]
   have h1':(s.size:Int)=1:=by omega
   simp -implicitDefEqProofs (disch:=omega) only[go_sem,simprocAttr,hb0]
  have h1':¬(s.size:Int)=1:=by omega
  by_cases hz:bt s (1:Nat)=48/\1+1<s.size
  ·have e:decide (formP s)=false:=decide_eq_false (fun h=>by have:=h.2.1; rw[hf]at this; exact this hz)
   rw[e]
   have hz1:bt s 1=48:=hz.1
   simp -implicitDefEqProofs (disch:=omega) only[go_sem,simprocAttr,hb0,hz1]
  ·have hz':¬(bt s 1=48/\1+1<s.size):=hz
   by_cases hz1:bt s 1=48
   ·simp -implicitDefEqProofs (disch:=omega) only[go_sem,simprocAttr,hb0,hz1]
    refine p_loop (ι:={ i:Nat // 1<=i/\i<=s.size/\∀j,j<i->1<=j->isD (bt s j) }) (fun i=>⟨[(4,vI i.1),(3,vI 1),(0,vS s)],[],[],0,0⟩) (fun i=>s.size-i.1) ⟨1,Nat.le_refl _,by omega,fun j h1 h2=>by omega⟩ ?_ ?_
    ·constructor<;>simp only[go_sem,simprocAttr,decide_eq_true_eq,Int.natCast_zero,Int.natCast_one]<;>try ((repeat' apply And.intro)<;>first|rfl|omega|(congr 3; omega)|(congr 2; omega))
    ·rintro⟨i,g1,g2,g3⟩
     simp only
     by_cases hi:i<s.size
     ·have hbr:=bt_rng s i
      by_cases hd:isD (bt s i)
      ·have hd':=hd
       unfold isD at hd'
       simp -implicitDefEqProofs (disch:=omega) only[go_sem,simprocAttr]
       refine⟨⟨i+1,by omega,hi,allD_step g3 hd⟩,by simp only; omega,?_⟩
       constructor<;>simp only[go_sem,simprocAttr,decide_eq_true_eq,Int.natCast_add,Int.natCast_one]<;>try ((repeat' apply And.intro)<;>first|rfl|omega|(congr 3; omega)|(congr 2; omega))
      ·have e:=form_bad hi (by rw[hf]; exact g1) hd
       unfold isD at hd
       rw[e]
       by_cases hl:bt s i<48
       ·simp -implicitDefEqProofs (disch:=omega) only[go_sem,simprocAttr]
       ·have hl2:57<bt s i:=by omega
        simp -implicitDefEqProofs (disch:=omega) only[go_sem,simprocAttr]
     ·have hi':i=s.size:=by omega
      subst hi'
      have e:decide (formP s)=true:=decide_eq_true ⟨by rw[hf]; omega,by rw[hf]; exact hz,by rw[hf]; exact fun j h1 h2=>g3 j h1 h2⟩
      rw[e]
      simp -implicitDefEqProofs (disch:=omega) only[go_sem,simprocAttr]
   ·simp -implicitDefEqProofs (disch:=omega) only[go_sem,simprocAttr,hb0,hz1]
    refine p_loop (ι:={ i:Nat // 1<=i/\i<=s.size/\∀j,j<i->1<=j->isD (bt s j) }) (fun i=>⟨[(4,vI i.1),(3,vI 1),(0,vS s)],[],[],0,0⟩) (fun i=>s.size-i.1) ⟨1,Nat.le_refl _,by omega,fun j h1 h2=>by omega⟩ ?_ ?_
    ·constructor<;>simp only[go_sem,simprocAttr,decide_eq_true_eq,Int.natCast_zero,Int.natCast_one]<;>try ((repeat' apply And.intro)<;>first|rfl|omega|(congr 3; omega)|(congr 2; omega))
    ·rintro⟨i,g1,g2,g3⟩
     simp only
     by_cases hi:i<s.size
     ·have hbr:=bt_rng s i
      by_cases hd:isD (bt s i)
      ·have hd':=hd
       unfold isD at hd'
       simp -implicitDefEqProofs (disch:=omega) only[go_sem,simprocAttr]
       refine⟨⟨i+1,by omega,hi,allD_step g3 hd⟩,by simp only; omega,?_⟩
       constructor<;>simp only[go_sem,simprocAttr,decide_eq_true_eq,Int.natCast_add,Int.natCast_one]<;>try ((repeat' apply And.intro)<;>first|rfl|omega|(congr 3; omega)|(congr 2; omega))
      ·have e:=form_bad hi (by rw[hf]; exact g1) hd
       unfold isD at hd
       rw[e]
       by_cases hl:bt s i<48
       ·simp -implicitDefEqProofs (disch:=omega) only[go_sem,simprocAttr]
       ·have hl2:57<bt s i:=by omega
        simp -implicitDefEqProofs (disch:=omega) only[go_sem,simprocAttr]
     ·have hi':i=s.size:=by omega
      subst hi'
      have e:decide (formP s)=true:=decide_eq_true ⟨by rw[hf]; omega,by rw[hf]; exact hz,by rw[hf]; exact fun j h1 h2=>g3 j h1 h2⟩
      rw[e]
      simp -implicitDefEqProofs (disch:=omega) only[go_sem,simprocAttr]
 ·have hf:fromF s=0:=by unfold fromF; rw[if_neg (fun h=>hb0 h.2)]
  by_cases hz:bt s (0:Nat)=48/\0+1<s.size
  ·have e:decide (formP s)=false:=decide_eq_false (fun h=>by have:=h.2.1; rw[hf]at this; exact this hz)
   rw[e]
   have hz1:bt s 0=48:=hz.1
   simp -implicitDefEqProofs (disch:=omega) only[go_sem,simprocAttr,hb0,hz1]
  ·have hz':¬(bt s 0=48/\0+1<s.size):=hz
   by_cases hz1:bt s 0=48
   ·simp -implicitDefEqProofs (disch:=omega) only[go_sem,simprocAttr,hb0,hz1]
    refine p_loop (ι:={ i:Nat // 0<=i/\i<=s.size/\∀j,j<i->0<=j->isD (bt s j) }) (fun i=>⟨[(4,vI i.1),(3,vI 0),(0,vS s)],[],[],0,0⟩) (fun i=>s.size-i.1) ⟨0,Nat.le_refl _,by omega,fun j h1 h2=>by omega⟩ ?_ ?_
    ·constructor<;>simp only[go_sem,simprocAttr,decide_eq_true_eq,Int.natCast_zero,Int.natCast_one]<;>try ((repeat' apply And.intro)<;>first|rfl|omega|(congr 3; omega)|(congr 2; omega))
    ·rintro⟨i,g1,g2,g3⟩
     simp only
     by_cases hi:i<s.size
     ·have hbr:=bt_rng s i
      by_cases hd:isD (bt s i)
      ·have hd':=hd
       unfold isD at hd'
       simp -implicitDefEqProofs (disch:=omega) only[go_sem,simprocAttr]
       refine⟨⟨i+1,by omega,hi,allD_step g3 hd⟩,by simp only; omega,?_⟩
       constructor<;>simp only[go_sem,simprocAttr,decide_eq_true_eq,Int.natCast_add,Int.natCast_one]<;>try ((repeat' apply And.intro)<;>first|rfl|omega|(congr 3; omega)|(congr 2; omega))
      ·have e:=form_bad hi (by rw[hf]; exact g1) hd
       unfold isD at hd
       rw[e]
       by_cases hl:bt s i<48
       ·simp -implicitDefEqProofs (disch:=omega) only[go_sem,simprocAttr]
       ·have hl2:57<bt s i:=by omega
        simp -implicitDefEqProofs (disch:=omega) only[go_sem,simprocAttr]
     ·have hi':i=s.size:=by omega
      subst hi'
      have e:decide (formP s)=true:=decide_eq_true ⟨by rw[hf]; omega,by rw[hf]; exact hz,by rw[hf]; exact fun j h1 h2=>g3 j h1 h2⟩
      rw[e]
      simp -implicitDefEqProofs (disch:=omega) only[go_sem,simprocAttr]
   ·simp -implicitDefEqProofs (disch:=omega) only[go_sem,simprocAttr,hb0,hz1]
    refine p_loop (ι:={ i:Nat // 0<=i/\i<=s.size/\∀j,j<i->0<=j->isD (bt s j) }) (fun i=>⟨[(4,vI i.1),(3,vI 0),(0,vS s)],[],[],0,0⟩) (fun i=>s.size-i.1) ⟨0,Nat.le_refl _,by omega,fun j h1 h2=>by omega⟩ ?_ ?_
    ·constructor<;>simp only[go_sem,simprocAttr,decide_eq_true_eq,Int.natCast_zero,Int.natCast_one]<;>try ((repeat' apply And.intro)<;>first|rfl|omega|(congr 3; omega)|(congr 2; omega))
    ·rintro⟨i,g1,g2,g3⟩
     simp only
     by_cases hi:i<s.size
     ·have hbr:=bt_rng s i
      by_cases hd:isD (bt s i)
      ·have hd':=hd
       unfold isD at hd'
       simp -implicitDefEqProofs (disch:=omega) only[go_sem,simprocAttr]
       refine⟨⟨i+1,by omega,hi,allD_step g3 hd⟩,by simp only; omega,?_⟩
       constructor<;>simp only[go_sem,simprocAttr,decide_eq_true_eq,Int.natCast_add,Int.natCast_one]<;>try ((repeat' apply And.intro)<;>first|rfl|omega|(congr 3; omega)|(congr 2; omega))
      ·have e:=form_bad hi (by rw[hf]; exact g1) hd
       unfold isD at hd
       rw[e]
       by_cases hl:bt s i<48
       ·simp -implicitDefEqProofs (disch:=omega) only[go_sem,simprocAttr]
       ·have hl2:57<bt s i:=by omega
        simp -implicitDefEqProofs (disch:=omega) only[go_sem,simprocAttr]
     ·have hi':i=s.size:=by omega
      subst hi'
      have e:decide (formP s)=true:=decide_eq_true ⟨by rw[hf]; omega,by rw[hf]; exact hz,by rw[hf]; exact fun j h1 h2=>g3 j h1 h2⟩
      rw[e]
      simp -implicitDefEqProofs (disch:=omega) only[go_sem,simprocAttr]
end Go.Proofs.YtcgmpcbkndpmbaaGreatDoor

end
