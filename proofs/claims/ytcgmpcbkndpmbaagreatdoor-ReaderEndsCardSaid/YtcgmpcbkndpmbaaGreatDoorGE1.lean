/-
  Contracts and plain laws on the way to the statement; each says its own conditions.
-/
import Derived.WalkKit
import Derived.Lib.LaidTab
import Derived.Lib.ItoaNum
import Derived.Below
import Derived.Laws.AppendOwn
import Derived.Laws.Cells
import Derived.Laws.Slices
import Derived.Laws.Entries
import Derived.Laws.Small
import Derived.Laws.BytesArg
import Derived.KernelRfl
import Derived.Laws.Strings
import Derived.Laws.Rows
import Derived.Laws.Tables
import Derived.Lib.AppendStr
section
namespace Go.Pw
open Go
set_option linter.unusedVariables false
def nGlob:Nat:=4
def HasW (w:World):Prop:=(∃t p,w.heap[3]? = some (.cells (Lib.pow10Tab.map fun z=>Value.int .u64 z).toArray t p))/\(∃te pe t p,w.heap[2]? = some (.cells #[.iface te pe] t p))/\(∃te pe t p,w.heap[1]? = some (.cells #[.iface te pe] t p))
theorem HasW.mono {w w':World}(h:∀g,g<nGlob->w'.heap[g]? = w.heap[g]?)(k:HasW w):HasW w':=by
 unfold HasW at k ⊢
 simp only[h 3 (by decide),h 2 (by decide),h 1 (by decide)]
 exact k
theorem hasW_ErrRange {w:World}(k:HasW w):∃te pe,w.cell? ⟨2,0,none⟩=some (.iface te pe):=by
 obtain⟨te,pe,t,p,h⟩:=k.2.1
 exact⟨te,pe,by simp[World.cell?,h]⟩
end Go.Pw

end
section
namespace Go.Pw
open Go Go.RowKit
set_option linter.unusedVariables false
set_option linter.unusedSimpArgs false
inductive PV where
 |val (v:Value)
 |sl (xs:List (List PV))
 |row (tok:Nat) (xs:List (List PV))
 |ptr (id off:Nat)
 |ms (id lo n cap:Nat)
 |fp (cs:List PV)
 |agg (cs:List PV)
 |tup (cs:List PV)
 |fn (f:FuncId) (caps:List PV)
 |iface (t:TypeId) (p:PV)
 |bm (f:FuncId) (firsts:List PV)
 deriving Inhabited
def PV.cells:PV->List PV
 | .agg cs=>cs
 |p=>[p]
def PV.one:PV->Bool
 | .val v=>v.oneCell'
 | .agg _ | .tup _=>false
 |_=>true
abbrev Cells:=Nat->Nat->Option Value
def SLe (S S':Cells):Prop:=∀b o v,S b o=some v->S' b o=some v
theorem SLe.refl (S:Cells):SLe S S:=fun _ _ _ h=>h
theorem SLe.trans {S S' S'':Cells}(h:SLe S S')(k:SLe S' S''):SLe S S'':=fun b o v e=>k b o v (h b o v e)
inductive RepF (S:Cells):Value->PV->Prop
 |val {v:Value} (h:v.oneCell'=true):RepF S v (.val v)
 |sl {A:Option Addr} {n c sz:Nat} {xs:List (List PV)} (f:Nat->Nat->Value)
  (hn:xs.length=n) (hc:n<=c) (hsz:∀x∈xs,x.length=sz)
  (hA:0<n->∃b o,A=some ⟨b,o,none⟩/\∀j i,j<n->i<sz->S b (o+(j*sz+i))=some (f j i))
  (hr:∀j i x p,xs[j]? = some x->x[i]? = some p->RepF S (f j i) p):RepF S (.slice A n c) (.sl xs)
theorem RepF.mono {S S':Cells}(h:SLe S S'){v:Value}{p:PV}(r:RepF S v p):RepF S' v p:=by
 induction r with
 |val h1=>exact .val h1
 |sl f hn hc hsz hA hr ih=>
  refine .sl f hn hc hsz (fun h0=>?_) (fun j i x p hx hp=>ih j i x p hx hp)
  obtain⟨b,o,e,k⟩:=hA h0
  exact⟨b,o,e,fun j i hj hi=>h _ _ _ (k j i hj hi)⟩
theorem RepF.one {S:Cells}{v:Value}{p:PV}(r:RepF S v p):v.oneCell'=true:=by
 cases r with
 |val h=>exact h
 |sl=>rfl
structure Tok where
 e:TypeId
 sz:Nat
 n:Nat
inductive PObj where
 |box (t:TypeId) (cs:List PV)
 |iter (s:ByteArray) (pos:Nat)
def lkp {α:Type}:List (Nat×α)->Nat->Option α
 | [],_=>none
 |(k,v)::r,i=>if i=k then some v else lkp r i
def upd {α:Type}:List (Nat×α)->Nat->α->List (Nat×α)
 | [],i,v=>[(i,v)]
 |(k,u)::r,i,v=>if i=k then(i,v)::r else(k,u)::upd r i v
theorem lkp_upd {α:Type}(l:List (Nat×α))(i:Nat)(v:α)(j:Nat):lkp (upd l i v) j=if j=i then some v else lkp l j:=by
 induction l with
 |nil=>simp[upd,lkp]
 |cons x r ih=>
  obtain⟨k,u⟩:=x
  unfold upd
  by_cases h:i=k
  ·subst h
   rw[if_pos rfl]
   simp only[lkp]
   split<;>rfl
  ·rw[if_neg h]
   simp only[lkp,ih]
   by_cases hj:j=k
   ·subst hj
    rw[if_pos rfl,if_pos rfl,if_neg (fun e=>h e.symm)]
   ·rw[if_neg hj,if_neg hj]
theorem lkp_cons {α:Type}(l:List (Nat×α))(i:Nat)(v:α)(j:Nat):lkp ((i,v)::l) j=if j=i then some v else lkp l j:=rfl
structure PS where
 env:List (Nat×PV)
 heap:List (Nat×PObj)
 toks:List (Nat×Tok)
 nx:Nat
 nt:Nat
structure Cx where
 ρ:Nat->Nat
 τ:Nat->Nat×Nat
 S:Cells
inductive RepV (C:Cx) (T:List (Nat×Tok)) (U V:Nat->Prop):Value->PV->Prop
 |frz {v:Value} {p:PV} (h:RepF C.S v p):RepV C T U V v p
 |row {v:Value} {tok:Nat} {xs:List (List PV)} (h:RepF C.S v (.sl xs)) (hk:V tok)
  (ht:∀t,lkp T tok=some t->xs.length<=t.n/\(∀x∈xs,x.length=t.sz)/\(xs.length=t.n->v = .slice (some ⟨(C.τ tok).1,0,none⟩) t.n (C.τ tok).2)):RepV C T U V v (.row tok xs)
 |ptr {id off:Nat} (h:U id):RepV C T U V (.pointer (some ⟨C.ρ id,off,none⟩)) (.ptr id off)
 |ms {id lo n cap:Nat} (h:U id) (hc:n<=cap):RepV C T U V (.slice (some ⟨C.ρ id,lo,none⟩) n cap) (.ms id lo n cap)
 |fp {b o:Nat} {cs:List PV} (h:∀(i:Nat) (p:PV),cs[i]? = some p->∃u,C.S b (o+i)=some u/\RepF C.S u p):RepV C T U V (.pointer (some ⟨b,o,none⟩)) (.fp cs)
 |agg {vs:Array Value} {cs:List PV} (hs:vs.size=cs.length) (h:∀(i:Nat) (v:Value) (p:PV),vs[i]? = some v->cs[i]? = some p->RepV C T U V v p)
  (h1:∀(i:Nat) (v:Value),vs[i]? = some v->v.oneCell'=true):RepV C T U V (.agg vs) (.agg cs)
 |tup {vs:Array Value} {cs:List PV} (hs:vs.size=cs.length) (h:∀(i:Nat) (v:Value) (p:PV),vs[i]? = some v->cs[i]? = some p->RepV C T U V v p):RepV C T U V (.tuple vs) (.tup cs)
 |fn {f:FuncId} {vs:Array Value} {cs:List PV} (hs:vs.size=cs.length) (h:∀(i:Nat) (v:Value) (p:PV),vs[i]? = some v->cs[i]? = some p->RepV C T U V v p) :
  RepV C T U V (.func (.func f) #[] vs) (.fn f cs)
 |iface {t:TypeId} {v:Value} {p:PV} (h:RepV C T U V v p):RepV C T U V (.iface t v) (.iface t p)
 |bm {f:FuncId} {vs:Array Value} {cs:List PV} (hs:vs.size=cs.length) (h:∀(i:Nat) (v:Value) (p:PV),vs[i]? = some v->cs[i]? = some p->RepV C T U V v p) :
  RepV C T U V (.func (.func f) vs #[]) (.bm f cs)
structure Ext (C C':Cx) (T T':List (Nat×Tok)) (U V U' V':Nat->Prop):Prop where
 S:SLe C.S C'.S
 ρ:∀id,U id->C'.ρ id=C.ρ id
 tok:∀k t',V k->lkp T' k=some t'->∃t,lkp T k=some t/\t.n<=t'.n/\t'.sz=t.sz/\(t.n=t'.n->C'.τ k=C.τ k)
 nx:∀i,U i->U' i
 nt:∀i,V i->V' i
theorem Ext.refl (C:Cx)(T:List (Nat×Tok))(U V:Nat->Prop):Ext C C T T U V U V:=
 ⟨SLe.refl _,fun _ _=>rfl,fun k t _ h=>⟨t,h,Nat.le_refl _,rfl,fun _=>rfl⟩,fun _ h=>h,fun _ h=>h⟩
theorem Ext.trans {C C' C'':Cx}{T T' T'':List (Nat×Tok)}{U V U' V' U'' V'':Nat->Prop}(h:Ext C C' T T' U V U' V')(k:Ext C' C'' T' T'' U' V' U'' V''):Ext C C'' T T'' U V U'' V'':=
 ⟨h.S.trans k.S,fun id hi=>(k.ρ id (h.nx _ hi)).trans (h.ρ id hi),fun i t hi ht=>by
  obtain⟨t1,h1,h2,hz,h3⟩:=k.tok i t (h.nt _ hi) ht
  obtain⟨t2,h4,h5,hz',h6⟩:=h.tok i t1 hi h1
  exact⟨t2,h4,Nat.le_trans h5 h2,hz.trans hz',fun e=>(h3 (by omega)).trans (h6 (by omega))⟩,fun i hi=>k.nx i (h.nx i hi),fun i hi=>k.nt i (h.nt i hi)⟩
theorem RepV.ext {C C':Cx}{T T':List (Nat×Tok)}{U V U' V':Nat->Prop}(e:Ext C C' T T' U V U' V'){v:Value}{p:PV}(r:RepV C T U V v p):RepV C' T' U' V' v p:=by
 induction r with
 |frz h=>exact .frz (h.mono e.S)
 |row h hk ht=>
  refine .row (h.mono e.S) (e.nt _ hk) (fun t' h'=>?_)
  obtain⟨t,h1,h2,hz,h3⟩:=e.tok _ t' hk h'
  obtain⟨h4,hl,h5⟩:=ht t h1
  refine⟨Nat.le_trans h4 h2,fun x hx=>(hl x hx).trans hz.symm,fun h6=>?_⟩
  have h7:t.n=t'.n:=by omega
  rw[h3 h7,<-h7]
  exact h5 (by omega)
 | @ptr id off h=>rw[<-e.ρ id h]; exact .ptr (e.nx _ h)
 | @ms id lo n cap h hc=>rw[<-e.ρ id h]; exact .ms (e.nx _ h) hc
 |fp h=>exact .fp (fun i p hp=>by obtain⟨u,h1,h2⟩:=h i p hp; exact⟨u,e.S _ _ _ h1,h2.mono e.S⟩)
 |agg hs h h1 ih=>exact .agg hs ih h1
 |tup hs h ih=>exact .tup hs ih
 |fn hs h ih=>exact .fn hs ih
 |iface h ih=>exact .iface ih
 |bm hs h ih=>exact .bm hs ih
structure Frame (own:Nat->Prop) (w0 w:World):Prop where
 os:w.os=w0.os
 tape:w.tape=w0.tape
 output:w.output=w0.output
 size:w0.heap.size<=w.heap.size
 block:∀k,k<w0.heap.size->¬own k->w.heap[k]? = w0.heap[k]?
theorem Frame.refl (own:Nat->Prop)(w:World):Frame own w w:=⟨rfl,rfl,rfl,Nat.le_refl _,fun _ _ _=>rfl⟩
structure Base where
 S:Cells
 C:Cx
 T:List (Nat×Tok)
 U:Nat->Prop
 V:Nat->Prop
structure Glob (own:Nat->Prop) (w0:World):Prop where
 has:HasW w0
 size:nGlob<=w0.heap.size
 own:∀g,g<nGlob->¬own g
structure Rel (own:Nat->Prop) (S0:Base) (w0:World) (C:Cx) (U V:Nat->Prop) (st:PS) (w:World):Prop where
 frame:Frame own w0 w
 stable:∀b o v,C.S b o=some v->w.cell? ⟨b,o,none⟩=some v
 box:∀id t cs,lkp st.heap id=some (.box t cs)->∃vs:Array Value,w.heap[C.ρ id]? = some (.cells vs t (0,0))/\vs.size=cs.length /\
  ∀(i:Nat) (v:Value) (p:PV),vs[i]? = some v->cs[i]? = some p->v.oneCell'=true/\RepV C st.toks U V v p
 iter:∀id s pos,lkp st.heap id=some (.iter s pos)->w.heap[C.ρ id]? = some (.stringIter s pos)
 hown:∀id o,lkp st.heap id=some o->U id/\C.ρ id<w.heap.size/\(own (C.ρ id)∨w0.heap.size<=C.ρ id)/\∀o',C.S (C.ρ id) o'=none
 hinj:∀i j oi oj,lkp st.heap i=some oi->lkp st.heap j=some oj->C.ρ i=C.ρ j->i=j
 tok:∀k t,lkp st.toks k=some t->V k/\(own (C.τ k).1∨w0.heap.size<=(C.τ k).1)/\(∃vs:Array Value,w.heap[(C.τ k).1]? = some (.cells vs t.e (0,0))/\vs.size=(C.τ k).2*t.sz) /\
  t.n<=(C.τ k).2/\(C.τ k).2<=maxLen/\∀o,t.n*t.sz<=o->C.S (C.τ k).1 o=none
 tbox:∀i oi k t,lkp st.heap i=some oi->lkp st.toks k=some t->C.ρ i≠(C.τ k).1
 tinj:∀i j ti tj,lkp st.toks i=some ti->lkp st.toks j=some tj->(C.τ i).1=(C.τ j).1->i=j
 snew:∀b o v,C.S b o=some v->S0.S b o=some v∨own b∨w0.heap.size<=b
 sold:SLe S0.S C.S
 base:Ext S0.C C S0.T st.toks S0.U S0.V U V
 glob:Glob own w0
def Known (w:World):Prop:=nGlob<=w.heap.size/\HasW w
theorem Rel.known {own:Nat->Prop}{S0:Base}{w0 w:World}{C:Cx}{U V:Nat->Prop}{st:PS}(R:Rel own S0 w0 C U V st w):Known w:=
 ⟨Nat.le_trans R.glob.size R.frame.size,R.glob.has.mono (fun g hg=>R.frame.block g (Nat.lt_of_lt_of_le hg R.glob.size) (R.glob.own g hg))⟩
def Env (C:Cx)(U V:Nat->Prop)(st:PS)(a:Act):Prop:=∀t p,lkp st.env t=some p->∃v,a.tmps[t]? = some v/\RepV C st.toks U V v p
structure St (own:Nat->Prop) (S0:Base) (w0:World) (N:Nat) (st:PS) (a:Act) (w:World):Prop where
 defers:a.defers=[]
 size:a.tmps.size=N
 ex:∃C,Rel own S0 w0 C (· < st.nx) (· < st.nt) st w/\Env C (· < st.nx) (· < st.nt) st a
def constPV:Value->PV
 | .agg cs=> .agg (cs.toList.map .val)
 |v=> .val v
def constOk:Value->Bool
 | .agg cs=>cs.toList.all (·.oneCell')
 | .tuple _=>false
 |_=>true
theorem constPV_rep {C:Cx}{T:List (Nat×Tok)}{U V:Nat->Prop}{v:Value}(h:constOk v=true):RepV C T U V v (constPV v):=by
 cases v with
 |agg cs=>
  simp only[constOk,List.all_eq_true]at h
  refine .agg (by simp) (fun i v p hv hp=>?_) (fun i v hv=>?_)
  ·have h1:=h v (by simpa using Array.mem_of_getElem? hv)
   have h2:p = .val v:=by simp[List.getElem?_map,hv]at hp; exact hp.symm
   subst h2
   exact .frz (.val h1)
  ·exact h v (by simpa using Array.mem_of_getElem? hv)
 |tuple vs=>simp[constOk]at h
 |_=>exact .frz (.val rfl)
def PS.ev (st:PS):Operand->Option PV
 | .tmp t=>lkp st.env t
 | .const v=>if constOk v then some (constPV v) else none
 | .func f=>some (.fn f [])
 | .global _=>none
theorem ev_rep {C:Cx}{U V:Nat->Prop}{st:PS}{a:Act}(h:Env C U V st a){x:Operand}{p:PV}(hp:st.ev x=some p):RepV C st.toks U V (a.eval x) p:=by
 cases x with
 |tmp t=>
  obtain⟨v,hv,r⟩:=h t p hp
  simpa [Act.eval,hv]using r
 |const v=>
  simp only[PS.ev]at hp
  split at hp
  ·obtain rfl:=Option.some.inj hp
   exact constPV_rep (by assumption)
  ·cases hp
 |func f=>
  simp only[PS.ev]at hp
  obtain rfl:=Option.some.inj hp
  exact .fn (vs:= #[]) (by simp) (by simp)
 |global g=>simp[PS.ev]at hp
def PS.put (st:PS)(dst:Option Tmp)(p:PV):PS:=
 match dst with
 |some d=>{ st with env:=(d,p)::st.env }
 |none=>st
def PS.kill (st:PS)(dst:Option Tmp):PS:=st.put dst (.tup [])
@[simp] theorem put_heap (st:PS) (d:Option Tmp) (p:PV):(st.put d p).heap=st.heap:=by cases d<;>rfl
@[simp] theorem put_toks (st:PS) (d:Option Tmp) (p:PV):(st.put d p).toks=st.toks:=by cases d<;>rfl
@[simp] theorem put_nx (st:PS) (d:Option Tmp) (p:PV):(st.put d p).nx=st.nx:=by cases d<;>rfl
@[simp] theorem put_nt (st:PS) (d:Option Tmp) (p:PV):(st.put d p).nt=st.nt:=by cases d<;>rfl
theorem Rel.put {own:Nat->Prop}{S0:Base}{w0 w:World}{C:Cx}{U V:Nat->Prop}{st:PS}(h:Rel own S0 w0 C U V st w)(d:Option Tmp)(p:PV):Rel own S0 w0 C U V (st.put d p) w:=by
 cases d with
 |none=>exact h
 |some d=>exact⟨h.frame,h.stable,h.box,h.iter,h.hown,h.hinj,h.tok,h.tbox,h.tinj,h.snew,h.sold,h.base,h.glob⟩
def fitsDst (N:Nat):Option Tmp->Bool
 |some d=>decide (d<N)
 |none=>true
theorem Env.put {C:Cx}{U V:Nat->Prop}{st:PS}{a:Act}(h:Env C U V st a){d:Option Tmp}(hd:fitsDst a.tmps.size d=true){v:Value}{p:PV}(r:RepV C st.toks U V v p):Env C U V (st.put d p) (a.put d v):=by
 cases d with
 |none=>exact h
 |some d=>
  intro t q hq
  simp only[fitsDst,decide_eq_true_eq]at hd
  simp only[PS.put,lkp_cons]at hq
  split at hq
  ·rename_i e
   subst e
   obtain rfl:=Option.some.inj hq
   exact⟨v,by simp[Act.put,hd],r⟩
  ·rename_i hne
   obtain⟨u,hu,r'⟩:=h t q hq
   exact⟨u,by simp only[Act.put]; rw[Array.getElem?_setIfInBounds_ne (fun e=>hne e.symm)]; exact hu,r'⟩
theorem undef_rep {C:Cx}{T:List (Nat×Tok)}{U V:Nat->Prop}:RepV C T U V undef (.tup []):= .tup (vs:= #[]) rfl (fun i v p h=>by simp at h)
theorem Env.kill {C:Cx}{U V:Nat->Prop}{st:PS}{a:Act}(h:Env C U V st a){d:Option Tmp}(hd:fitsDst a.tmps.size d=true):Env C U V (st.kill d) (a.put d undef):=h.put hd undef_rep
theorem Rel.kill {own:Nat->Prop}{S0:Base}{w0 w:World}{C:Cx}{U V:Nat->Prop}{st:PS}(h:Rel own S0 w0 C U V st w)(d:Option Tmp):Rel own S0 w0 C U V (st.kill d) w:=h.put d _
end Go.Pw

end
section
namespace Go.Pw
open Go Go.RowKit
set_option linter.unusedVariables false
set_option linter.unusedSimpArgs false
def sizeOf? (P:Program)(t:TypeId):Option Nat:=(P.info? t).map (·.size)
def bytesOf? (P:Program)(t:TypeId):Option Nat:=(P.info? t).map (·.bytes)
def zeroOf? (P:Program)(t:TypeId):Option Value:=(P.info? t).bind (·.zero)
theorem run_sizeOf?  {P:Program}{t:TypeId}{n:Nat}(h:sizeOf? P t=some n)(w:World):(sizeOf t).run P w = .ok n w:=by
 unfold sizeOf? at h
 obtain⟨i,hi,rfl⟩:=Option.map_eq_some_iff.1 h
 simp[sizeOf,typeInfo,hi]
theorem run_zeroOf? {P:Program}{t:TypeId}{v:Value}(h:zeroOf? P t=some v)(w:World):(zeroValue t).run P w = .ok v w:=by
 unfold zeroOf? at h
 obtain⟨i,hi,hv⟩:=Option.bind_eq_some_iff.1 h
 simp[zeroValue,typeInfo,hi,hv]
def bt (s:ByteArray)(i:Int):Int:=((s.data.toList.getD i.toNat 0).toNat:Int)
def bopK (P:Program)(op:BinOp)(t:TypeId)(x y:Value)(K:PV->Prop):Prop:=
 match x,y with
 | .int k a,.int k' b=>
  match op with
  | .shl=>0<=b/\K (.val (.int k (k.wrap (a*2^min b.toNat k.bits))))
  | .shr=>0<=b/\K (.val (.int k (a.fdiv (2^min b.toNat k.bits))))
  | .add=>k=k'/\K (.val (.int k (k.wrap (a+b))))
  | .sub=>k=k'/\K (.val (.int k (k.wrap (a-b))))
  | .mul=>k=k'/\K (.val (.int k (k.wrap (a*b))))
  | .quo=>k=k'/\b≠0/\K (.val (.int k (k.wrap (a.tdiv b))))
  | .rem=>k=k'/\b≠0/\K (.val (.int k (a.tmod b)))
  | .and=>k=k'/\K (.val (.int k (k.wrap (BitVec.ofInt k.bits a &&& BitVec.ofInt k.bits b).toNat)))
  | .or=>k=k'/\K (.val (.int k (k.wrap (BitVec.ofInt k.bits a ||| BitVec.ofInt k.bits b).toNat)))
  | .xor=>k=k'/\K (.val (.int k (k.wrap (BitVec.ofInt k.bits a ^^^ BitVec.ofInt k.bits b).toNat)))
  | .andNot=>k=k'/\K (.val (.int k (k.wrap (BitVec.ofInt k.bits a &&& ~~~BitVec.ofInt k.bits b).toNat)))
  | .eql=>k=k'/\K (.val (.bool (decide (a=b))))
  | .neq=>k=k'/\K (.val (.bool (!decide (a=b))))
  | .lss=>k=k'/\K (.val (.bool (decide (a<b))))
  | .leq=>k=k'/\K (.val (.bool (decide (a<=b))))
  | .gtr=>k=k'/\K (.val (.bool (decide (b<a))))
  | .geq=>k=k'/\K (.val (.bool (decide (b<=a))))
 | .string a,.string b=>
  match op with
  | .add=>a.size+b.size<=9223372036854775807/\K (.val (.string (a++b)))
  | .eql=>K (.val (.bool (decide (a.data.toList=b.data.toList))))
  | .neq=>K (.val (.bool (!decide (a.data.toList=b.data.toList))))
  | .lss=>K (.val (.bool (Op.bytesLess a.data.toList b.data.toList)))
  | .leq=>K (.val (.bool (Op.bytesLess a.data.toList b.data.toList||decide (a.data.toList=b.data.toList))))
  | .gtr=>K (.val (.bool (!(Op.bytesLess a.data.toList b.data.toList||decide (a.data.toList=b.data.toList)))))
  | .geq=>K (.val (.bool (!Op.bytesLess a.data.toList b.data.toList)))
  |_=>False
 | .bool a,.bool b=>
  P.underlying t=some .bool /\
  match op with
  | .eql=>K (.val (.bool (a==b)))
  | .neq=>K (.val (.bool (!(a==b))))
  |_=>False
 | .slice none 0 0,.slice none 0 0=>
  (∃e,P.underlying t=some (.slice e)) /\
  match op with
  | .eql=>K (.val (.bool true))
  | .neq=>K (.val (.bool false))
  |_=>False
 |_,_=>False
theorem bytes_beq (a b:List UInt8):(a==b)=decide (a=b):=by
 by_cases h:a=b
 ·simp[h]
 ·simp[h]
theorem int_beq (a b:Int):(a==b)=decide (a=b):=by
 by_cases h:a=b
 ·simp[h]
 ·simp[h]
theorem run_equal_bool {P:Program}{t:TypeId}(hu:P.underlying t=some .bool)(d:Nat)(a b:Bool)(w:World):(Op.equalIn (d+1) t (.bool a) (.bool b)).run P w = .ok (a==b) w:=by
 simp[Op.equalIn,run_underlying hu]
theorem run_equal_nil {P:Program}{t e:TypeId}(hu:P.underlying t=some (.slice e))(d:Nat)(w:World):(Op.equalIn (d+1) t (.slice none 0 0) (.slice none 0 0)).run P w = .ok true w:=by
 simp[Op.equalIn,run_underlying hu]
theorem bopK_sound {P:Program}{op:BinOp}{t:TypeId}{x y:Operand}{a b:Value}{K:PV->Prop}(h:bopK P op t a b K)(w:World) :
  ∃v,(do eqGuard op t x y a b; binOp op t a b:Sem Value).run P w = .ok v w/\v.oneCell'=true/\K (.val v):=by
 have hg:∀(op:BinOp),(eqGuard op t x y a b).run P w = .ok () w->(do eqGuard op t x y a b; binOp op t a b:Sem Value).run P w=(binOp op t a b).run P w:=by
  intro op h
  simp[h]
 have hguard:(eqGuard op t x y a b).run P w = .ok () w:=by
  unfold bopK at h
  cases a<;>cases b<;>first|(exact h.elim)|(cases op<;>rfl)|(simp only at h; cases op<;>rfl)
 refine(hg op hguard) ▸ ?_
 unfold bopK at h
 split at h
 ·rename_i k a k' b
  cases op
  case shl=>exact⟨_,by simp[binOp,Op.shift,Int.not_lt.2 h.1],rfl,h.2⟩
  case shr=>exact⟨_,by simp[binOp,Op.shift,Int.not_lt.2 h.1],rfl,h.2⟩
  case add=>obtain⟨rfl,h⟩:=h; exact⟨_,by simp[binOp,Op.intArith],rfl,h⟩
  case sub=>obtain⟨rfl,h⟩:=h; exact⟨_,by simp[binOp,Op.intArith],rfl,h⟩
  case mul=>obtain⟨rfl,h⟩:=h; exact⟨_,by simp[binOp,Op.intArith],rfl,h⟩
  case quo=>obtain⟨rfl,h0,h⟩:=h; exact⟨_,by simp[binOp,Op.intDiv,h0],rfl,h⟩
  case rem=>obtain⟨rfl,h0,h⟩:=h; exact⟨_,by simp[binOp,Op.intDiv,h0],rfl,h⟩
  case and=>obtain⟨rfl,h⟩:=h; exact⟨_,by simp only[binOp,Op.intBits,ne_eq,not_true_eq_false,if_false,Sem.run_pure],rfl,h⟩
  case or=>obtain⟨rfl,h⟩:=h; exact⟨_,by simp only[binOp,Op.intBits,ne_eq,not_true_eq_false,if_false,Sem.run_pure],rfl,h⟩
  case xor=>obtain⟨rfl,h⟩:=h; exact⟨_,by simp only[binOp,Op.intBits,ne_eq,not_true_eq_false,if_false,Sem.run_pure],rfl,h⟩
  case andNot=>obtain⟨rfl,h⟩:=h; exact⟨_,by simp only[binOp,Op.intBits,ne_eq,not_true_eq_false,if_false,Sem.run_pure],rfl,h⟩
  case eql=>obtain⟨rfl,h⟩:=h; exact⟨_,by simp only[binOp,Op.intCmp,ne_eq,not_true_eq_false,if_false,Sem.run_pure,int_beq],rfl,h⟩
  case neq=>obtain⟨rfl,h⟩:=h; exact⟨_,by simp only[binOp,Op.intCmp,ne_eq,not_true_eq_false,if_false,Sem.run_pure,bne,int_beq],rfl,h⟩
  case lss=>obtain⟨rfl,h⟩:=h; exact⟨_,by simp only[binOp,Op.intCmp,ne_eq,not_true_eq_false,if_false,Sem.run_pure],rfl,h⟩
  case leq=>obtain⟨rfl,h⟩:=h; exact⟨_,by simp only[binOp,Op.intCmp,ne_eq,not_true_eq_false,if_false,Sem.run_pure],rfl,h⟩
  case gtr=>obtain⟨rfl,h⟩:=h; exact⟨_,by simp only[binOp,Op.intCmp,ne_eq,not_true_eq_false,if_false,Sem.run_pure],rfl,h⟩
  case geq=>obtain⟨rfl,h⟩:=h; exact⟨_,by simp only[binOp,Op.intCmp,ne_eq,not_true_eq_false,if_false,Sem.run_pure],rfl,h⟩
 ·rename_i a b
  have hm:IntKind.i64.max=9223372036854775807:=by decide
  cases op<;>simp only at h<;>first
   |(exact h.elim)
   |(refine⟨_,?_,?_,h.2⟩
     ·simp only[binOp,Op.stringOp,hm]
      rw[if_neg (by omega)]
      rfl
     ·rfl)
   |(exact⟨_,by simp only[binOp,Op.stringOp,ByteArray.toList_eq,bytes_beq]; rfl,rfl,h⟩)
 ·obtain⟨hu,h⟩:=h
  rename_i a b
  have he:=run_equal_bool (P:=P) hu 9999 a b w
  cases op<;>simp only at h<;>first
   |(exact h.elim)
   |(refine⟨_,?_,?_,h⟩
     ·simp only[binOp]
      simp only[Op.equal,Op.maxDepth,Sem.run_bind,he,Result.andThen_ok,Sem.run_pure]
     ·rfl)
 ·obtain⟨⟨e,hu⟩,h⟩:=h
  have he:=run_equal_nil (P:=P) hu 9999 w
  cases op<;>simp only at h<;>first
   |(exact h.elim)
   |(refine⟨_,?_,?_,h⟩
     ·simp only[binOp]
      simp only[Op.equal,Op.maxDepth,Sem.run_bind,he,Result.andThen_ok,Sem.run_pure]
      try (first|rfl|simp only[Bool.not_true])
     ·rfl)
 ·exact h.elim
end Go.Pw

end
section
namespace Go.Pw
open Go Go.RowKit
set_option linter.unusedVariables false
set_option linter.unusedSimpArgs false
def bindO {α:Type}(o:Option α)(K:α->Prop):Prop:=match o with|some x=>K x|none=>False
@[simp] theorem bindO_some {α:Type} (x:α) (K:α->Prop):bindO (some x) K=K x:=rfl
@[simp] theorem bindO_none {α:Type} (K:α->Prop):bindO (none:Option α) K=False:=rfl
theorem bindO_elim {α:Type}{o:Option α}{K:α->Prop}(h:bindO o K):∃x,o=some x/\K x:=by
 cases o with
 |none=>exact h.elim
 |some x=>exact⟨x,rfl,h⟩
def aggT (P:Program)(t:TypeId):Option Bool:=
 match P.underlying t with
 |some (.struct _)|some (.array _ _)=>some true
 |some _=>some false
 |none=>none
theorem run_isAgg {P:Program}{t:TypeId}{b:Bool}(h:aggT P t=some b)(w:World):(isAgg t).run P w = .ok b w:=by
 unfold aggT at h
 unfold isAgg
 split at h
 ·rename_i u hu
  obtain rfl:=Option.some.inj h
  simp[run_underlying hu]
 ·rename_i n e hu
  obtain rfl:=Option.some.inj h
  simp[run_underlying hu]
 ·rename_i d h1 h2 hu
  obtain rfl:=Option.some.inj h
  rw[Sem.run_bind,run_underlying hu]
  simp only[Result.andThen_ok]
  cases d<;>first|rfl|exact absurd rfl (h1 _)|exact absurd rfl (h2 _ _)
 ·cases h
def readCells (P:Program)(t:TypeId)(cs:List PV)(off:Nat):Option PV:=
 match aggT P t with
 |some true=>match sizeOf? P t with
  |some n=>if off+n<=cs.length then some (.agg ((cs.drop off).take n)) else none
  |none=>none
 |some false=>cs[off]?
 |none=>none
theorem run_loadVar_cells {P:Program}{t:TypeId}{b off:Nat}{w:World}{vs:List Value}{cs:List PV}{p:PV}{C:Cx}{T:List (Nat×Tok)}{U V:Nat->Prop}
  (hr:readCells P t cs off=some p) (hc:∀i q,cs[i]? = some q->∃v,w.cell? ⟨b,i+off-off,none⟩=some v/\v.oneCell'=true/\RepV C T U V v q) :
  ∃v,(loadVar t ⟨b,off,none⟩).run P w = .ok v w/\RepV C T U V v p:=by
 have hc':∀i q,cs[i]? = some q->∃v,w.cell? ⟨b,i,none⟩=some v/\v.oneCell'=true/\RepV C T U V v q:=fun i q h=>by
  have:=hc i q h
  rwa [Nat.add_sub_cancel]at this
 unfold readCells at hr
 split at hr
 ·rename_i ha
  split at hr
  ·rename_i n hn
   split at hr
   ·rename_i hl
    obtain rfl:=Option.some.inj hr
    let f:Nat->Value:=fun j=>(w.cell? ⟨b,off+j,none⟩).getD undef
    have hf:∀j,j<n->∃q,cs[off+j]? = some q/\w.cell? ⟨b,off+j,none⟩=some (f j)/\(f j).oneCell'=true/\RepV C T U V (f j) q:=fun j hj=>by
     have hlt:off+j<cs.length:=by omega
     obtain⟨v,h1,h2,h3⟩:=hc' (off+j) _ (List.getElem?_eq_getElem hlt)
     have:f j=v:=by simp[f,h1]
     exact⟨_,List.getElem?_eq_getElem hlt,by rw[this]; exact h1,by rw[this]; exact h2,by rw[this]; exact h3⟩
    refine⟨.agg ((List.range n).map f).toArray,?_,?_⟩
    ·have hl:=run_loadCells (P:=P) w ⟨b,off,none⟩ n f (fun j hj=>by rw[Addr.add_lit]; obtain⟨_,_,h,_⟩:=hf j hj; exact h)
     simp[loadVar,run_isAgg ha,run_sizeOf? hn,hl]
    ·refine .agg (by simp; omega) (fun i v q hv hq=>?_) (fun i v hv=>?_)
     ·have hi:i<n:=by
       have:=(Array.getElem?_eq_some_iff.1 hv).1
       simpa using this
      obtain⟨q',h1,h2,h3,h4⟩:=hf i hi
      have hv':v=f i:=by simp[hi]at hv; exact hv.symm
      have hq':q=q':=by
       rw[List.getElem?_take,if_pos hi,List.getElem?_drop,h1]at hq
       exact(Option.some.inj hq).symm
      subst hv' hq'
      exact h4
     ·have hi:i<n:=by
       have:=(Array.getElem?_eq_some_iff.1 hv).1
       simpa using this
      obtain⟨q',h1,h2,h3,h4⟩:=hf i hi
      have hv':v=f i:=by simp[hi]at hv; exact hv.symm
      subst hv'
      exact h3
   ·cases hr
  ·cases hr
 ·rename_i ha
  obtain⟨v,h1,h2,h3⟩:=hc' off p hr
  exact⟨v,by simp[loadVar,run_isAgg ha,h1],h3⟩
 ·cases hr
def fillP (place:Nat->Option (Nat×Nat))(cells:List PV):List (Nat×PV)->Option (List PV)
 | []=>some cells
 |(i,v)::rest=>
  match place i with
  |none=>none
  |some (off,size)=>
   if v.cells.length≠size||off+v.cells.length>cells.length then none
   else fillP place (cells.take off++v.cells++cells.drop (off+v.cells.length)) rest
def placesOf (P:Program):List Field->Option (List (Nat×Nat))
 | []=>some []
 |f::r=>match sizeOf? P f.type,placesOf P r with
  |some n,some l=>some ((f.offset,n)::l)
  |_,_=>none
def evAll (st:PS):List Operand->Option (List PV)
 | []=>some []
 |x::r=>match st.ev x,evAll st r with
  |some p,some l=>some (p::l)
  |_,_=>none
def evParts (st:PS):List (Nat×Operand)->Option (List (Nat×PV))
 | []=>some []
 |(i,x)::r=>match st.ev x,evParts st r with
  |some p,some l=>some ((i,p)::l)
  |_,_=>none
def RepL (C:Cx)(T:List (Nat×Tok))(U V:Nat->Prop)(vs:List Value)(cs:List PV):Prop:=
 vs.length=cs.length/\∀(i:Nat) (v:Value) (p:PV),vs[i]? = some v->cs[i]? = some p->v.oneCell'=true/\RepV C T U V v p
theorem RepL.app {C:Cx}{T:List (Nat×Tok)}{U V:Nat->Prop}{vs us:List Value}{cs ds:List PV}(h:RepL C T U V vs cs)(k:RepL C T U V us ds):RepL C T U V (vs++us) (cs++ds):=by
 refine⟨by simp[h.1,k.1],fun i v p hv hp=>?_⟩
 by_cases hi:i<vs.length
 ·rw[List.getElem?_append_left hi]at hv
  rw[List.getElem?_append_left (h.1▸hi)]at hp
  exact h.2 i v p hv hp
 ·rw[List.getElem?_append_right (by omega)]at hv
  rw[List.getElem?_append_right (by have:=h.1; omega),<-h.1]at hp
  exact k.2 _ v p hv hp
theorem RepL.take {C:Cx}{T:List (Nat×Tok)}{U V:Nat->Prop}{vs:List Value}{cs:List PV}(h:RepL C T U V vs cs)(n:Nat):RepL C T U V (vs.take n) (cs.take n):=by
 refine⟨by simp[h.1],fun i v p hv hp=>?_⟩
 rw[List.getElem?_take]at hv hp
 split at hv
 ·rw[if_pos (by assumption)]at hp
  exact h.2 i v p hv hp
 ·cases hv
theorem RepL.drop {C:Cx}{T:List (Nat×Tok)}{U V:Nat->Prop}{vs:List Value}{cs:List PV}(h:RepL C T U V vs cs)(n:Nat):RepL C T U V (vs.drop n) (cs.drop n):=by
 refine⟨by simp[h.1],fun i v p hv hp=>?_⟩
 rw[List.getElem?_drop]at hv hp
 exact h.2 _ v p hv hp
theorem RepL.nil {C:Cx}{T:List (Nat×Tok)}{U V:Nat->Prop}:RepL C T U V [] []:=⟨rfl,fun i v p h=>by simp at h⟩
theorem RepL.cons {C:Cx}{T:List (Nat×Tok)}{U V:Nat->Prop}{v:Value}{p:PV}{vs:List Value}{cs:List PV}(h1:v.oneCell'=true)(r:RepV C T U V v p)(h:RepL C T U V vs cs):RepL C T U V (v::vs) (p::cs):=
 RepL.app (vs:=[v]) (cs:=[p]) ⟨rfl,fun i u q hu hq=>by
  cases i with
  |zero=>simp at hu hq; subst hu hq; exact⟨h1,r⟩
  |succ i=>simp at hu⟩ h
theorem RepV.single {C:Cx}{T:List (Nat×Tok)}{U V:Nat->Prop}{v:Value}{p:PV}(h1:v.oneCell'=true)(r:RepV C T U V v p)(hp:p.cells=[p]):RepL C T U V v.cells.toList p.cells:=by
 have:v.cells = #[v]:=by cases v<;>first|rfl|simp[Value.oneCell']at h1
 rw[this,hp]
 exact RepL.cons h1 r RepL.nil
theorem RepV.cells {C:Cx}{T:List (Nat×Tok)}{U V:Nat->Prop}{v:Value}{p:PV}(h:RepV C T U V v p)(h1:∀cs,p ≠ .tup cs):RepL C T U V v.cells.toList p.cells:=by
 cases h with
 |frz h=>
  cases h with
  |val h2=>exact RepV.single h2 (.frz (.val h2)) rfl
  |sl f hn hc hsz hA hr=>exact RepV.single rfl (.frz (.sl f hn hc hsz hA hr)) rfl
 |row h hk ht=>exact RepV.single h.one (.row h hk ht) rfl
 |ptr h=>exact RepV.single rfl (.ptr h) rfl
 |ms h hc=>exact RepV.single rfl (.ms h hc) rfl
 |fp h=>exact RepV.single rfl (.fp h) rfl
 |agg hs h h1'=>
  exact⟨by simpa [Value.cells,PV.cells]using hs,fun i u p hv hp=>⟨h1' i u (by simpa [Value.cells]using hv),h i u p (by simpa [Value.cells]using hv) (by simpa [PV.cells]using hp)⟩⟩
 |tup hs h=>exact absurd rfl (h1 _)
 |fn hs h=>exact RepV.single rfl (.fn hs h) rfl
 |iface h=>exact RepV.single rfl (.iface h) rfl
 |bm hs h=>exact RepV.single rfl (.bm hs h) rfl
theorem fold_put:∀(l:List Value)(off k:Nat)(cs:Array Value),off+k+l.length<=cs.size ->
  ((l.zipIdx k).foldl (fun cs (c,j)=>cs.setIfInBounds (off+j) c) cs).toList=cs.toList.take (off+k)++l++cs.toList.drop (off+k+l.length)
 | [],off,k,cs,_=>by simp
 |v::r,off,k,cs,h=>by
  have h':off+(k+1)+r.length<=(cs.setIfInBounds (off+k) v).size:=by simp at h ⊢; omega
  rw[List.zipIdx_cons,List.foldl_cons,fold_put r off (k+1) _ h']
  have e:=list_seg_step cs.toList (off+k) v r (by simp at h ⊢; omega)
  simpa [Array.toList_setIfInBounds,Nat.add_assoc]using e
theorem fill_rep {C:Cx}{T:List (Nat×Tok)}{U V:Nat->Prop}{place:Nat->Option (Nat×Nat)}:∀(parts:List (Nat×Value))(ps:List (Nat×PV))(vs:Array Value)(cs out:List PV),
  parts.length=ps.length->(∀(i:Nat) (x:Nat×Value) (y:Nat×PV),parts[i]? = some x->ps[i]? = some y->x.1=y.1/\RepL C T U V x.2.cells.toList y.2.cells)->RepL C T U V vs.toList cs ->
  fillP place cs ps=some out->∃us,Instr.fill place vs parts=some us/\RepL C T U V us.toList out
 | [],ps,vs,cs,out,hl,_,hr,ho=>by
  have:ps=[]:=by cases ps<;>simp_all
  subst this
  simp only[fillP,Option.some.injEq]at ho
  subst ho
  exact⟨vs,rfl,hr⟩
 |(i,v)::parts,ps,vs,cs,out,hl,hp,hr,ho=>by
  cases ps with
  |nil=>simp at hl
  |cons y ps=>
   obtain⟨i',p⟩:=y
   obtain⟨e1,e2⟩:=hp 0 (i,v) (i',p) rfl rfl
   simp only at e1 e2
   subst e1
   simp only[fillP]at ho
   unfold Instr.fill
   cases hpl:place i with
   |none=>simp[hpl]at ho
   |some os=>
    obtain⟨off,size⟩:=os
    rw[hpl]at ho
    simp only at ho ⊢
    have hsz:v.cells.size=p.cells.length:=by simpa using e2.1
    have hsv:vs.size=cs.length:=by simpa using hr.1
    split at ho
    ·cases ho
    ·rename_i hc
     simp only[ne_eq,decide_not,Bool.or_eq_true,Bool.not_eq_true',decide_eq_false_iff_not,decide_eq_true_eq,not_or,Classical.not_not,Nat.not_lt,gt_iff_lt]at hc
     rw[if_neg (by simp only[ne_eq,decide_not,Bool.or_eq_true,Bool.not_eq_true',decide_eq_false_iff_not,decide_eq_true_eq,not_or,Classical.not_not,Nat.not_lt,gt_iff_lt,hsz,hsv]; exact hc)]
     have hcells:v.cells.zipIdx.foldl (fun cs (c,j)=>cs.setIfInBounds (off+j) c) vs=(v.cells.toList.zipIdx 0).foldl (fun cs (c,j)=>cs.setIfInBounds (off+j) c) vs:=by
      rw[<-Array.foldl_toList]
      simp
     refine fill_rep parts ps _ _ out (by simpa using hl) (fun j x y hx hy=>hp (j+1) x y hx hy) ?_ ho
     rw[hcells,fold_put _ off 0 _ (by simp; omega)]
     simp only[Nat.add_zero]
     have hlen:v.cells.toList.length=p.cells.length:=e2.1
     rw[hlen]
     exact((hr.take off).app e2).app (hr.drop _)
end Go.Pw

end
section
namespace Go.Pw
open Go Go.RowKit
set_option linter.unusedVariables false
set_option linter.unusedSimpArgs false
def intK (p:PV)(K:Int->Prop):Prop:=match p with | .val (.int _ i)=>K i|_=>False
@[simp] theorem intK_int (k:IntKind) (i:Int) (K:Int->Prop):intK (.val (.int k i)) K=K i:=rfl
theorem intK_elim {p:PV}{K:Int->Prop}(h:intK p K):∃k i,p = .val (.int k i)/\K i:=by
 unfold intK at h
 split at h
 ·exact⟨_,_,rfl,h⟩
 ·exact h.elim
def boundsK (st:PS)(lo hi:Option Operand)(len:Nat)(K:Nat->Nat->Prop):Prop:=
 match lo,hi with
 |none,none=>K 0 len
 |some l,none=>bindO (st.ev l) fun p=>intK p fun i=>0<=i/\i<=len/\K i.toNat len
 |none,some h=>bindO (st.ev h) fun q=>intK q fun j=>0<=j/\j<=len/\K 0 j.toNat
 |some l,some h=>bindO (st.ev l) fun p=>intK p fun i=>bindO (st.ev h) fun q=>intK q fun j=>0<=i/\i<=j/\j<=len/\K i.toNat j.toNat
def sliceK (P:Program)(st:PS)(t:TypeId)(x:Operand)(lo hi:Option Operand)(K:PV->Prop):Prop:=
 match P.underlying t with
 |some .string=>bindO (st.ev x) fun p=>match p with
  | .val (.string s)=>boundsK st lo hi s.size fun l h=>K (.val (.string (s.extract l h)))
  |_=>False
 |some (.slice e)=>bindO (sizeOf? P e) fun n=>bindO (st.ev x) fun p=>match p with
  | .sl xs=>boundsK st lo hi xs.length fun l h=>(lo=none∨∀x∈xs,x.length=n)/\K (.sl ((xs.take h).drop l))
  | .row _ xs=>boundsK st lo hi xs.length fun l h=>(lo=none∨∀x∈xs,x.length=n)/\K (.sl ((xs.take h).drop l))
  | .val (.slice none 0 0)=>boundsK st lo hi 0 fun l h=>K (.val (.slice none 0 0))
  | .ms id l0 m cap=>boundsK st lo hi m fun l h=>lo=none/\K (.ms id l0 h cap)
  |_=>False
 |some (.array m e)=>bindO (sizeOf? P e) fun n=>bindO (st.ev x) fun p=>match p with
  | .ptr id off=>boundsK st lo hi m fun l h=>lo=none/\K (.ms id off h m)
  |_=>False
 |_=>False
def indexAddrK (P:Program)(st:PS)(t:TypeId)(x ix:Operand)(K:PV->Prop):Prop:=
 match P.underlying t with
 |some (.slice e)=>bindO (sizeOf? P e) fun n=>bindO (st.ev x) fun p=>bindO (st.ev ix) fun q=>intK q fun i=>match p with
  | .sl xs=>0<=i/\i<xs.length/\(xs.getD i.toNat []).length=n/\K (.fp (xs.getD i.toNat []))
  | .row _ xs=>0<=i/\i<xs.length/\(xs.getD i.toNat []).length=n/\K (.fp (xs.getD i.toNat []))
  | .ms id l0 m cap=>0<=i/\i<m/\K (.ptr id (l0+i.toNat*n))
  |_=>False
 |some (.array m e)=>bindO (sizeOf? P e) fun n=>bindO (st.ev x) fun p=>bindO (st.ev ix) fun q=>intK q fun i=>match p with
  | .ptr id off=>0<=i/\i<m/\K (.ptr id (off+i.toNat*n))
  |_=>False
 |_=>False
def indexK (P:Program)(st:PS)(t:TypeId)(x ix:Operand)(K:PV->Prop):Prop:=
 match P.underlying t with
 |some .string=>bindO (st.ev x) fun p=>bindO (st.ev ix) fun q=>intK q fun i=>match p with
  | .val (.string s)=>0<=i/\i<s.size/\K (.val (.int .u8 (bt s i)))
  |_=>False
 |some (.array m e)=>bindO (sizeOf? P e) fun n=>bindO (st.ev x) fun p=>bindO (st.ev ix) fun q=>intK q fun i=>match p with
  | .agg cs=>0<=i/\i<m/\bindO (readCells P e cs (i.toNat*n)) K
  |_=>False
 |_=>False
def fieldAddrK (P:Program)(st:PS)(s:TypeId)(x:Operand)(f:Nat)(K:PV->Prop):Prop:=
 match P.underlying s with
 |some (.struct fs)=>bindO fs[f]? fun fd=>bindO (sizeOf? P fd.type) fun n=>n≠0/\bindO (st.ev x) fun p=>match p with
  | .ptr id off=>K (.ptr id (off+fd.offset))
  | .fp cs=>K (.fp (cs.drop fd.offset))
  |_=>False
 |_=>False
def fieldK (P:Program)(st:PS)(s:TypeId)(x:Operand)(f:Nat)(K:PV->Prop):Prop:=
 match P.underlying s with
 |some (.struct fs)=>bindO fs[f]? fun fd=>bindO (st.ev x) fun p=>match p with
  | .agg cs=>bindO (readCells P fd.type cs fd.offset) K
  |_=>False
 |_=>False
def loadK (P:Program)(st:PS)(t:TypeId)(x:Operand)(K:PV->Prop):Prop:=
 bindO (st.ev x) fun p=>match p with
 | .ptr id off=>bindO (lkp st.heap id) fun o=>match o with
  | .box _ cs=>bindO (readCells P t cs off) K
  |_=>False
 | .fp cs=>bindO (readCells P t cs 0) K
 |_=>False
def buildK (P:Program)(st:PS)(t:TypeId)(parts:List (Nat×Operand))(K:PV->Prop):Prop:=
 match P.underlying t with
 |some (.struct fs)=>bindO (zeroOf? P t) fun z=>bindO (placesOf P fs.toList) fun pl=>bindO (evParts st parts) fun ps=>
  constOk z=true/\(ps.all fun e=>match e.2 with | .tup _=>false|_=>true)=true/\bindO (fillP (fun i=>pl[i]?) (constPV z).cells ps) fun cs=>K (.agg cs)
 |some (.array m e)=>bindO (zeroOf? P t) fun z=>bindO (sizeOf? P e) fun n=>bindO (evParts st parts) fun ps=>
  constOk z=true/\(ps.all fun e=>match e.2 with | .tup _=>false|_=>true)=true/\bindO (fillP (fun i=>some (i*n,n)) (constPV z).cells ps) fun cs=>K (.agg cs)
 |_=>False
def lenK (P:Program)(st:PS)(t:TypeId)(x:Operand)(K:PV->Prop):Prop:=
 match P.underlying t with
 |some .string=>bindO (st.ev x) fun p=>match p with
  | .val (.string s)=>K (.val (.int .i64 s.size))
  |_=>False
 |some (.slice e)=>bindO (st.ev x) fun p=>match p with
  | .sl xs=>K (.val (.int .i64 xs.length))
  | .row _ xs=>K (.val (.int .i64 xs.length))
  | .val (.slice none 0 0)=>K (.val (.int .i64 0))
  | .ms id l0 m cap=>K (.val (.int .i64 m))
  |_=>False
 |some (.array m e)=>K (.val (.int .i64 m))
 |_=>False
def isNilK (op:BinOp)(b:Bool)(K:PV->Prop):Prop:=
 match op with
 | .eql=>K (.val (.bool b))
 | .neq=>K (.val (.bool (!b)))
 |_=>False
def constO:Operand->Bool
 | .const _=>true
 |_=>false
def binK (P:Program)(st:PS)(op:BinOp)(t:TypeId)(x y:Operand)(K:PV->Prop):Prop:=
 bindO (st.ev x) fun p=>bindO (st.ev y) fun q=>match p,q with
 | .val .nilIface,.val .nilIface=>(∃ms,P.underlying t=some (.interface ms))/\constO y=true/\isNilK op true K
 | .val a,.val b=>bopK P op t a b K
 | .sl xs,.val (.slice none 0 0)=>(∃e,P.underlying t=some (.slice e))/\xs≠[]/\isNilK op false K
 | .row _ xs,.val (.slice none 0 0)=>(∃e,P.underlying t=some (.slice e))/\xs≠[]/\isNilK op false K
 | .iface _ _,.val .nilIface=>(∃ms,P.underlying t=some (.interface ms))/\isNilK op false K
 |_,_=>False
def notIface:TypeDesc->Bool
 | .interface _=>false
 |_=>true
def unK (op:UnOp)(p:PV)(K:PV->Prop):Prop:=
 match op,p with
 | .neg,.val (.int k n)=>K (.val (.int k (k.wrap (0-n))))
 | .not,.val (.bool b)=>K (.val (.bool (!b)))
 |_,_=>False
def numsOf:List (List PV)->Option (List Int)
 | []=>some []
 | [.val (.int .u8 n)]::r=>(numsOf r).map (n :: ·)
 |_=>none
def isBytes (P:Program)(t:TypeId):Prop:=∃e,P.underlying t=some (.slice e)/\P.underlying e=some (.int .u8)
def convK (P:Program)(src dst:TypeId)(p:PV)(K:PV->Prop):Prop:=
 (P.underlying src).isSome=true /\
 match P.underlying dst,p with
 |some (.int k),.val (.int _ n)=>K (.val (.int k (k.wrap n)))
 |some .string,.val (.int _ n)=>K (.val (.string (Utf8.encode n)))
 |some .string,.val (.string s)=>K (.val (.string s))
 |some .string,.sl xs=>isBytes P src/\bindO (numsOf xs) fun l=>K (.val (.string (strOfNums l)))
 |some .string,.row _ xs=>isBytes P src/\bindO (numsOf xs) fun l=>K (.val (.string (strOfNums l)))
 |some .string,.val (.slice none 0 0)=>isBytes P src/\K (.val (.string ByteArray.empty))
 |_,_=>False
def max2K (isMax:Bool)(p q:PV)(K:PV->Prop):Prop:=
 match p,q with
 | .val (.int k x),.val (.int k' y)=>k=k'/\K (.val (.int k (if isMax then(if y>x then y else x) else(if y<x then y else x))))
 |_,_=>False
def callV (P:Program)(st:PS)(c:Call)(K:PV->Prop):Prop:=
 match c.callee with
 | .builtin .len=>match c.args.toList,c.argTypes.toList with
  | [x],[t]=>lenK P st t x K
  |_,_=>False
 | .builtin .max=>match c.args.toList with
  | [x,y]=>bindO (st.ev x) fun p=>bindO (st.ev y) fun q=>max2K true p q K
  |_=>False
 | .builtin .min=>match c.args.toList with
  | [x,y]=>bindO (st.ev x) fun p=>bindO (st.ev y) fun q=>max2K false p q K
  |_=>False
 |_=>False
def valK (P:Program)(st:PS)(op:Op)(K:PV->Prop):Prop:=
 match op with
 | .move x=>bindO (st.ev x) K
 | .assign x=>bindO (st.ev x) K
 | .pick c a b=>bindO (st.ev c) fun p=>match p with
  | .val (.bool t)=>(t=true->bindO (st.ev a) K)/\(t=false->bindO (st.ev b) K)
  |_=>False
 | .load t x=>loadK P st t x K
 | .build t parts=>buildK P st t parts.toList K
 | .binOp op t x y _=>binK P st op t x y K
 | .unOp op _ x=>bindO (st.ev x) fun p=>unK op p K
 | .convert src dst x=>bindO (st.ev x) fun p=>convK P src dst p K
 | .slice t x lo hi none=>sliceK P st t x lo hi K
 | .fieldAddr s x f=>fieldAddrK P st s x f K
 | .field s x f=>fieldK P st s x f K
 | .indexAddr t x i=>indexAddrK P st t x i K
 | .index t x i=>indexK P st t x i K
 | .extract x i=>bindO (st.ev x) fun p=>match p with
  | .tup cs=>bindO cs[i]? K
  |_=>False
 | .makeInterface t x=>bindO (P.underlying t) fun u=>notIface u=true/\bindO (st.ev x) fun p=>K (.iface t p)
 | .makeFunc (.func f) first caps=>match first.toList with
  | []=>bindO (evAll st caps.toList) fun cs=>K (.fn f cs)
  |x::r=>caps.toList=[]/\bindO (evAll st (x::r)) fun cs=>K (.bm f cs)
 | .nilCheck x=>bindO (st.ev x) fun p=>match p with
  | .ptr _ _=>K p
  | .fp _=>K p
  | .fn _ _=>K p
  |_=>False
 | .call c=>callV P st c K
 |_=>False
section
variable {P:Program} {own:Nat->Prop} {S0:Base} {w0 w:World} {C:Cx} {U V:Nat->Prop} {st:PS} {a:Act}
theorem rep_val {T:List (Nat×Tok)}{U V:Nat->Prop}{v u:Value}(h:RepV C T U V v (.val u)):v=u/\u.oneCell'=true:=by
 cases h with
 |frz h=>cases h with|val h=>exact⟨rfl,h⟩
theorem rep_sl {T:List (Nat×Tok)}{U V:Nat->Prop}{v:Value}{xs:List (List PV)}(h:RepV C T U V v (.sl xs)∨∃k,RepV C T U V v (.row k xs)):RepF C.S v (.sl xs):=by
 rcases h with h|⟨k,h⟩
 ·cases h with|frz h=>exact h
 ·cases h with
  |frz h=>cases h
  |row h _ _=>exact h
theorem rep_ptr {T:List (Nat×Tok)}{U V:Nat->Prop}{v:Value}{id off:Nat}(h:RepV C T U V v (.ptr id off)):v = .pointer (some ⟨C.ρ id,off,none⟩)/\U id:=by
 cases h with
 |frz h=>cases h
 |ptr h=>exact⟨rfl,h⟩
theorem rep_ms {T:List (Nat×Tok)}{U V:Nat->Prop}{v:Value}{id lo n cap:Nat}(h:RepV C T U V v (.ms id lo n cap)):v = .slice (some ⟨C.ρ id,lo,none⟩) n cap/\U id/\n<=cap:=by
 cases h with
 |frz h=>cases h
 |ms h hc=>exact⟨rfl,h,hc⟩
theorem rep_fp {T:List (Nat×Tok)}{U V:Nat->Prop}{v:Value}{cs:List PV}(h:RepV C T U V v (.fp cs)) :
  ∃b o,v = .pointer (some ⟨b,o,none⟩)/\∀(i:Nat) (p:PV),cs[i]? = some p->∃u,C.S b (o+i)=some u/\RepF C.S u p:=by
 cases h with
 |frz h=>cases h
 |fp h=>exact⟨_,_,rfl,h⟩
theorem rep_agg {T:List (Nat×Tok)}{U V:Nat->Prop}{v:Value}{cs:List PV}(h:RepV C T U V v (.agg cs)):∃vs,v = .agg vs/\RepL C T U V vs.toList cs:=by
 cases h with
 |frz h=>cases h
 |agg hs h h1=>exact⟨_,rfl,by simpa using hs,fun i v p hv hp=>⟨h1 i v (by simpa using hv),h i v p (by simpa using hv) hp⟩⟩
theorem rep_tup {T:List (Nat×Tok)}{U V:Nat->Prop}{v:Value}{cs:List PV}(h:RepV C T U V v (.tup cs)):∃vs,v = .tuple vs/\vs.size=cs.length/\∀(i:Nat)(v:Value)(p:PV),vs[i]? = some v->cs[i]? = some p->RepV C T U V v p:=by
 cases h with
 |frz h=>cases h
 |tup hs h=>exact⟨_,rfl,hs,h⟩
theorem rep_fn {T:List (Nat×Tok)}{U V:Nat->Prop}{v:Value}{f:FuncId}{cs:List PV}(h:RepV C T U V v (.fn f cs)):∃vs:Array Value,v = .func (.func f) #[] vs/\vs.size=cs.length/\∀(i:Nat)(v:Value)(p:PV),vs[i]? = some v->cs[i]? = some p->RepV C T U V v p:=by
 cases h with
 |frz h=>cases h
 |fn hs h=>exact⟨_,rfl,hs,h⟩
theorem rep_bm {T:List (Nat×Tok)}{U V:Nat->Prop}{v:Value}{f:FuncId}{cs:List PV}(h:RepV C T U V v (.bm f cs)):∃vs:Array Value,v = .func (.func f) vs #[]/\vs.size=cs.length/\∀(i:Nat)(v:Value)(p:PV),vs[i]? = some v->cs[i]? = some p->RepV C T U V v p:=by
 cases h with
 |frz h=>cases h
 |bm hs h=>exact⟨_,rfl,hs,h⟩
theorem rep_iface {T:List (Nat×Tok)}{U V:Nat->Prop}{v:Value}{t:TypeId}{p:PV}(h:RepV C T U V v (.iface t p)):∃u,v = .iface t u/\RepV C T U V u p:=by
 cases h with
 |frz h=>cases h
 |iface h=>exact⟨_,rfl,h⟩
theorem rep_aggL {T:List (Nat×Tok)}{U V:Nat->Prop}{vs:Array Value}{cs:List PV}(h:RepL C T U V vs.toList cs):RepV C T U V (.agg vs) (.agg cs):=
 .agg (by simpa using h.1) (fun i v p hv hp=>(h.2 i v p (by simpa using hv) hp).2) (fun i v hv=>by
  have hi:i<cs.length:=by
   have:=(Array.getElem?_eq_some_iff.1 hv).1
   have h1:=h.1
   simp at h1
   omega
  exact(h.2 i v _ (by simpa using hv) (List.getElem?_eq_getElem hi)).1)
theorem evParts_rep (E:Env C U V st a):∀(parts:List (Nat×Operand))(ps:List (Nat×PV)),evParts st parts=some ps->(ps.all fun e=>match e.2 with | .tup _=>false|_=>true)=true ->
  (parts.map fun x=>(x.1,a.eval x.2)).length=ps.length/\∀(i:Nat) (x:Nat×Value) (y:Nat×PV),(parts.map fun x=>(x.1,a.eval x.2))[i]? = some x->ps[i]? = some y->x.1=y.1/\RepL C st.toks U V x.2.cells.toList y.2.cells
 | [],ps,h,_=>by
  simp only[evParts,Option.some.injEq]at h
  subst h
  exact⟨rfl,fun i x y hx=>by simp at hx⟩
 |(i,x)::r,ps,h,hnt=>by
  simp only[evParts]at h
  split at h
  ·rename_i p l hp hl
   obtain rfl:=Option.some.inj h
   simp only[List.all_cons,Bool.and_eq_true]at hnt
   obtain⟨ih1,ih2⟩:=evParts_rep E r l hl hnt.2
   refine⟨by simpa using ih1,fun j u y hu hy=>?_⟩
   cases j with
   |zero=>
    simp at hu hy
    subst hu hy
    refine⟨rfl,(ev_rep E hp).cells (fun cs e=>?_)⟩
    have:=hnt.1
    have e':p = .tup cs:=e
    rw[e']at this
    cases this
   |succ j=>exact ih2 j u y (by simpa using hu) (by simpa using hy)
  ·cases h
theorem evAll_rep (E:Env C U V st a):∀(xs:List Operand)(ps:List PV),evAll st xs=some ps ->
  (xs.map a.eval).length=ps.length/\∀(i:Nat) (v:Value) (p:PV),(xs.map a.eval)[i]? = some v->ps[i]? = some p->RepV C st.toks U V v p
 | [],ps,h=>by
  simp only[evAll,Option.some.injEq]at h
  subst h
  exact⟨rfl,fun i x y hx=>by simp at hx⟩
 |x::r,ps,h=>by
  simp only[evAll]at h
  split at h
  ·rename_i p l hp hl
   obtain rfl:=Option.some.inj h
   obtain⟨ih1,ih2⟩:=evAll_rep E r l hl
   refine⟨by simpa using ih1,fun j v p hv hp=>?_⟩
   cases j with
   |zero=>simp at hv hp; subst hv hp; exact ev_rep E (by assumption)
   |succ j=>exact ih2 j v p (by simpa using hv) (by simpa using hp)
  ·cases h
end
end Go.Pw

end
section
namespace Go.Pw
open Go Go.RowKit
set_option linter.unusedVariables false
set_option linter.unusedSimpArgs false
section
variable {P:Program} {own:Nat->Prop} {S0:Base} {w0 w:World} {C:Cx} {U V:Nat->Prop} {st:PS} {a:Act}
theorem run_sliceBound_ok (k:IntKind)(i:Int)(y:Nat)(code:BoundsCode)(h0:0<=i)(h1:i<=y)(w:World):(Instr.sliceBound (.int k i) y code).run P w = .ok i.toNat w:=by
 simp[Instr.sliceBound,asIntOf,h0,h1]
theorem bounds_sound (E:Env C U V st a){lo hi:Option Operand}{len cap:Nat}{K:Nat->Nat->Prop}(isS:Bool)(h:boundsK st lo hi len K)(hc:len<=cap) :
  ∃l r,(Instr.sliceBounds isS len cap (lo.map a.eval) (hi.map a.eval) none).run P w = .ok (l,r,cap) w/\l<=r/\r<=len/\K l r/\(lo=none->l=0):=by
 unfold boundsK at h
 split at h
 ·exact⟨0,len,by simp[Instr.sliceBounds],Nat.zero_le _,Nat.le_refl _,h,fun _=>rfl⟩
 ·rename_i x
  replace h:=bindO_elim h; obtain⟨p,hp,h⟩:=h
  replace h:=intK_elim h; obtain⟨k,i,rfl,h0,h1,h⟩:=h
  have e:a.eval x = .int k i:=(rep_val (ev_rep E hp)).1
  exact⟨i.toNat,len,by simp[Instr.sliceBounds,e,run_sliceBound_ok k i len _ h0 h1],by omega,Nat.le_refl _,h,fun e=>by cases e⟩
 ·rename_i x
  replace h:=bindO_elim h; obtain⟨p,hp,h⟩:=h
  replace h:=intK_elim h; obtain⟨k,i,rfl,h0,h1,h⟩:=h
  have e:a.eval x = .int k i:=(rep_val (ev_rep E hp)).1
  exact⟨0,i.toNat,by simp[Instr.sliceBounds,e,run_sliceBound_ok k i cap _ h0 (by omega)],Nat.zero_le _,by omega,h,fun _=>rfl⟩
 ·rename_i x y
  replace h:=bindO_elim h; obtain⟨p,hp,h⟩:=h
  replace h:=intK_elim h; obtain⟨k,i,rfl,h⟩:=h
  replace h:=bindO_elim h; obtain⟨q,hq,h⟩:=h
  replace h:=intK_elim h; obtain⟨k',j,rfl,h0,h1,h2,h⟩:=h
  have e:a.eval x = .int k i:=(rep_val (ev_rep E hp)).1
  have e':a.eval y = .int k' j:=(rep_val (ev_rep E hq)).1
  exact⟨i.toNat,j.toNat,by simp[Instr.sliceBounds,e,e',run_sliceBound_ok k' j cap _ (by omega) (by omega),run_sliceBound_ok k i j.toNat _ h0 (by omega)],by omega,by omega,h,fun e=>by cases e⟩
theorem repF_cut {S:Cells}{A:Option Addr}{m c n:Nat}{xs:List (List PV)}(h:RepF S (.slice A m c) (.sl xs))(l r:Nat)(hl:l<=r)(hr:r<=xs.length)(hn:l=0∨∀x∈xs,x.length=n) :
  RepF S (.slice (if c=l then A else A.map (·.add (l*n))) (r-l) (c-l)) (.sl ((xs.take r).drop l)):=by
 cases h with
 | @sl _ _ _ sz _ f hm hc hsz hA hrr=>
  refine .sl (sz:=sz) (fun j i=>f (l+j) i) (by rw[List.length_drop,List.length_take]; omega) (by omega) (fun x hx=>hsz x (List.mem_of_mem_take (List.mem_of_mem_drop hx))) (fun h0=>?_) (fun j i x p hx hp=>?_)
  ·obtain⟨b,o,rfl,hS⟩:=hA (by omega)
   rw[if_neg (by omega)]
   have hsn:l*n=l*sz:=by
    rcases hn with rfl|hn
    ·simp
    ·have hx0:xs[0]? = some (xs[0]'(by omega)):=List.getElem?_eq_getElem _
     have h1:=hn _ (List.mem_of_getElem? hx0)
     have h2:=hsz _ (List.mem_of_getElem? hx0)
     have:n=sz:=h1.symm.trans h2
     rw[this]
   refine⟨b,o+l*sz,by simp[Addr.add_lit,hsn],fun j i hj hi=>?_⟩
   have:=hS (l+j) i (by omega) hi
   rw[<-this]
   congr 1
   rw[Nat.add_mul]
   omega
  ·rw[List.getElem?_drop,List.getElem?_take]at hx
   split at hx
   ·exact hrr _ i x p hx hp
   ·cases hx
theorem slice_sound (E:Env C U V st a)(R:Rel own S0 w0 C U V st w){t:TypeId}{x:Operand}{lo hi:Option Operand}{K:PV->Prop}(h:sliceK P st t x lo hi K) :
  ∃v p,(Instr.sliceAt t (a.eval x) (lo.map a.eval) (hi.map a.eval) none).run P w = .ok v w/\RepV C st.toks U V v p/\K p:=by
 unfold sliceK at h
 split at h
 ·rename_i hu
  replace h:=bindO_elim h; obtain⟨p,hp,h⟩:=h
  split at h
  ·rename_i s
   have e:a.eval x = .string s:=(rep_val (ev_rep E hp)).1
   obtain⟨l,r,hb,_,_,hk,_⟩:=bounds_sound (P:=P) (w:=w) E false h (Nat.le_refl _)
   refine⟨_,_,?_,.frz (.val rfl),hk⟩
   simp[Instr.sliceAt,Instr.slice,run_underlying hu,e,hb]
  ·exact h.elim
 ·rename_i e hu
  replace h:=bindO_elim h; obtain⟨n,hn,h⟩:=h
  replace h:=bindO_elim h; obtain⟨p,hp,h⟩:=h
  have key:∀(xs:List (List PV)),RepF C.S (a.eval x) (.sl xs)->boundsK st lo hi xs.length (fun l r=>(lo=none∨∀x∈xs,x.length=n)/\K (.sl ((xs.take r).drop l))) ->
    ∃v p,(Instr.sliceAt t (a.eval x) (lo.map a.eval) (hi.map a.eval) none).run P w = .ok v w/\RepV C st.toks U V v p/\K p:=by
   intro xs hr h
   generalize a.eval x=v at hr
   cases hr with
   | @sl A m c sz _ f hm hc hsz hA hrr=>
    obtain⟨l,r,hb,h1,h2,⟨hk1,hk⟩,h3⟩:=bounds_sound (P:=P) (w:=w) E true h (by omega:xs.length<=c)
    rw[hm]at hb
    refine⟨_,_,?_,.frz (repF_cut (n:=n) (.sl f hm hc hsz hA hrr) l r h1 h2 (hk1.imp h3 id)),hk⟩
    simp[Instr.sliceAt,Instr.slice,run_underlying hu,hb,run_sizeOf? hn]
  split at h
  ·exact key _ (rep_sl (.inl (ev_rep E hp))) h
  ·exact key _ (rep_sl (.inr ⟨_,ev_rep E hp⟩)) h
  ·have ev:a.eval x = .slice none 0 0:=(rep_val (ev_rep E hp)).1
   obtain⟨l,r,hb,h1,h2,hk,h3⟩:=bounds_sound (P:=P) (w:=w) E true h (Nat.le_refl 0)
   have hl:l=0:=by omega
   have hr:r=0:=by omega
   subst hl hr
   refine⟨_,_,?_,.frz (.val rfl),hk⟩
   simp[Instr.sliceAt,Instr.slice,run_underlying hu,ev,hb,run_sizeOf? hn]
  ·rename_i id l0 m cap
   obtain⟨ev,hid,hmc⟩:=rep_ms (ev_rep E hp)
   obtain⟨l,r,hb,h1,h2,⟨hlo,hk⟩,h3⟩:=bounds_sound (P:=P) (w:=w) E true h hmc
   have hl:=h3 hlo
   subst hl
   refine⟨.slice (some ⟨C.ρ id,l0,none⟩) r cap,_,?_,.ms hid (by omega),hk⟩
   simp[Instr.sliceAt,Instr.slice,run_underlying hu,ev,hb,run_sizeOf? hn,Addr.add]
  ·exact h.elim
 ·rename_i m e hu
  replace h:=bindO_elim h; obtain⟨n,hn,h⟩:=h
  replace h:=bindO_elim h; obtain⟨p,hp,h⟩:=h
  split at h
  ·rename_i id off
   obtain⟨ev,hid⟩:=rep_ptr (ev_rep E hp)
   obtain⟨l,r,hb,h1,h2,⟨hlo,hk⟩,h3⟩:=bounds_sound (P:=P) (w:=w) E false h (Nat.le_refl _)
   have hl:=h3 hlo
   subst hl
   refine⟨.slice (some ⟨C.ρ id,off,none⟩) r m,_,?_,.ms hid (by omega),hk⟩
   simp[Instr.sliceAt,run_underlying hu,ev,hb,run_sizeOf? hn,Addr.add,Instr.sureAddr]
  ·exact h.elim
 ·exact h.elim
theorem indexAddr_sound (E:Env C U V st a)(R:Rel own S0 w0 C U V st w){t:TypeId}{x ix:Operand}{K:PV->Prop}(h:indexAddrK P st t x ix K) :
  ∃v p,(Instr.indexAt t (a.eval x) (a.eval ix)).run P w = .ok v w/\RepV C st.toks U V v p/\K p:=by
 unfold indexAddrK at h
 split at h
 ·rename_i e hu
  replace h:=bindO_elim h; obtain⟨n,hn,h⟩:=h
  replace h:=bindO_elim h; obtain⟨p,hp,h⟩:=h
  replace h:=bindO_elim h; obtain⟨q,hq,h⟩:=h
  replace h:=intK_elim h; obtain⟨k,i,rfl,h⟩:=h
  have ei:a.eval ix = .int k i:=(rep_val (ev_rep E hq)).1
  have key:∀(xs:List (List PV)),RepF C.S (a.eval x) (.sl xs)->(0<=i/\i<xs.length/\(xs.getD i.toNat []).length=n/\K (.fp (xs.getD i.toNat []))) ->
    ∃v p,(Instr.indexAt t (a.eval x) (a.eval ix)).run P w = .ok v w/\RepV C st.toks U V v p/\K p:=by
   intro xs hr ⟨h0,h1,h2,hk⟩
   rw[ei]
   generalize a.eval x=v at hr
   cases hr with
   | @sl A m c sz _ f hm hc hsz hA hrr=>
    obtain⟨b,o,rfl,hS⟩:=hA (by omega)
    have hlt:i.toNat<xs.length:=by omega
    have hx:xs[i.toNat]? = some (xs.getD i.toNat []):=by simp[List.getD_eq_getElem?_getD,List.getElem?_eq_getElem hlt]
    have hszn:sz=n:=by rw[<-h2]; exact(hsz _ (List.mem_of_getElem? hx)).symm
    refine⟨.pointer (some ⟨b,o+i.toNat*n,none⟩),_,?_,.fp (fun j p hp=>?_),hk⟩
    ·simp[Instr.indexAt,run_underlying hu,asIntOf,h0,(by omega:i<(m:Int)),run_sizeOf? hn,Addr.add_lit]
    ·have hj:j<n:=by rw[<-h2]; exact(List.getElem?_eq_some_iff.1 hp).1
     refine⟨f i.toNat j,?_,hrr _ j _ p hx hp⟩
     have:=hS i.toNat j (by omega) (by omega)
     rw[hszn]at this
     rw[<-this]
     congr 1
     omega
  split at h
  ·exact key _ (rep_sl (.inl (ev_rep E hp))) h
  ·exact key _ (rep_sl (.inr ⟨_,ev_rep E hp⟩)) h
  ·rename_i id l0 m cap
   obtain⟨ev,hid,hmc⟩:=rep_ms (ev_rep E hp)
   obtain⟨h0,h1,hk⟩:=h
   refine⟨.pointer (some ⟨C.ρ id,l0+i.toNat*n,none⟩),_,?_,.ptr hid,hk⟩
   simp[Instr.indexAt,run_underlying hu,asIntOf,ev,ei,h0,h1,run_sizeOf? hn,Addr.add_lit]
  ·exact h.elim
 ·rename_i m e hu
  replace h:=bindO_elim h; obtain⟨n,hn,h⟩:=h
  replace h:=bindO_elim h; obtain⟨p,hp,h⟩:=h
  replace h:=bindO_elim h; obtain⟨q,hq,h⟩:=h
  replace h:=intK_elim h; obtain⟨k,i,rfl,h⟩:=h
  have ei:a.eval ix = .int k i:=(rep_val (ev_rep E hq)).1
  split at h
  ·rename_i id off
   obtain⟨ev,hid⟩:=rep_ptr (ev_rep E hp)
   obtain⟨h0,h1,hk⟩:=h
   refine⟨.pointer (some ⟨C.ρ id,off+i.toNat*n,none⟩),_,?_,.ptr hid,hk⟩
   simp[Instr.indexAt,run_underlying hu,asIntOf,ev,ei,h0,h1,run_sizeOf? hn,Addr.add_lit,Instr.sureAddr]
  ·exact h.elim
 ·exact h.elim
theorem part_sound {T:List (Nat×Tok)}{U V:Nat->Prop}{t:TypeId}{vs:Array Value}{cs:List PV}{off:Nat}{p:PV}(h:RepL C T U V vs.toList cs)(hr:readCells P t cs off=some p) :
  ∃v,(part t vs off).run P w = .ok v w/\RepV C T U V v p:=by
 unfold readCells at hr
 split at hr
 ·rename_i ha
  split at hr
  ·rename_i n hn
   split at hr
   ·obtain rfl:=Option.some.inj hr
    refine⟨.agg (vs.extract off (off+n)),by simp[part,run_isAgg ha,run_sizeOf? hn],rep_aggL ?_⟩
    have:=(h.drop off).take n
    simpa [List.extract_eq_take_drop]using this
   ·cases hr
  ·cases hr
 ·rename_i ha
  have hlt:off<vs.toList.length:=by rw[h.1]; exact(List.getElem?_eq_some_iff.1 hr).1
  have hv:vs.toList[off]? = some (vs.toList[off]'hlt):=List.getElem?_eq_getElem hlt
  have hv2:vs[off]? = some (vs.toList[off]'hlt):=by simp at hv; simp[hv]
  refine⟨vs.toList[off]'hlt,by simp only[part,Sem.run_bind,run_isAgg ha,Result.andThen_ok,Bool.false_eq_true,if_false,hv2,Sem.run_pure],(h.2 off _ p hv hr).2⟩
 ·cases hr
theorem index_sound (E:Env C U V st a)(R:Rel own S0 w0 C U V st w){t:TypeId}{x ix:Operand}{K:PV->Prop}(h:indexK P st t x ix K) :
  ∃v p,(Instr.index t (a.eval x) (a.eval ix)).run P w = .ok v w/\RepV C st.toks U V v p/\K p:=by
 unfold indexK at h
 split at h
 ·rename_i hu
  replace h:=bindO_elim h; obtain⟨p,hp,h⟩:=h
  replace h:=bindO_elim h; obtain⟨q,hq,h⟩:=h
  replace h:=intK_elim h; obtain⟨k,i,rfl,h⟩:=h
  have ei:a.eval ix = .int k i:=(rep_val (ev_rep E hq)).1
  split at h
  ·rename_i s
   have e:a.eval x = .string s:=(rep_val (ev_rep E hp)).1
   obtain⟨h0,h1,hk⟩:=h
   have hlt:i.toNat<s.size:=by omega
   have hlt2:i.toNat<s.data.toList.length:=by simpa using hlt
   refine⟨_,_,?_,.frz (.val rfl),hk⟩
   have hb:(s[i.toNat]'hlt).toNat=(s.data.toList.getD i.toNat 0).toNat:=by
    have:s[i.toNat]'hlt=s.data.toList.getD i.toNat 0:=by
     rw[List.getD_eq_getElem?_getD,List.getElem?_eq_getElem hlt2]
     rfl
    rw[this]
   simp[Instr.index,run_underlying hu,e,ei,asIntOf,h0,hlt,bt,hb]
  ·exact h.elim
 ·rename_i m e hu
  replace h:=bindO_elim h; obtain⟨n,hn,h⟩:=h
  replace h:=bindO_elim h; obtain⟨p,hp,h⟩:=h
  replace h:=bindO_elim h; obtain⟨q,hq,h⟩:=h
  replace h:=intK_elim h; obtain⟨k,i,rfl,h⟩:=h
  have ei:a.eval ix = .int k i:=(rep_val (ev_rep E hq)).1
  split at h
  ·rename_i cs
   obtain⟨vs,ev,hr⟩:=rep_agg (ev_rep E hp)
   obtain⟨h0,h1,h⟩:=h
   replace h:=bindO_elim h; obtain⟨p,hp,hk⟩:=h
   obtain⟨v,hv,hv2⟩:=part_sound (P:=P) (w:=w) hr hp
   exact⟨v,p,by simp[Instr.index,run_underlying hu,ev,ei,asIntOf,h0,h1,run_sizeOf? hn,hv],hv2,hk⟩
  ·exact h.elim
 ·exact h.elim
theorem field_sound (E:Env C U V st a){s:TypeId}{x:Operand}{f:Nat}{K:PV->Prop}(h:fieldK P st s x f K) :
  ∃v p,(Instr.field s (a.eval x) f).run P w = .ok v w/\RepV C st.toks U V v p/\K p:=by
 unfold fieldK at h
 split at h
 ·rename_i fs hu
  replace h:=bindO_elim h; obtain⟨fd,hf,h⟩:=h
  replace h:=bindO_elim h; obtain⟨p,hp,h⟩:=h
  split at h
  ·obtain⟨vs,ev,hr⟩:=rep_agg (ev_rep E hp)
   replace h:=bindO_elim h; obtain⟨p,hp,hk⟩:=h
   obtain⟨v,hv,hv2⟩:=part_sound (P:=P) (w:=w) hr hp
   exact⟨v,p,by simp[Instr.field,run_underlying hu,ev,hf,asAgg,hv],hv2,hk⟩
  ·exact h.elim
 ·exact h.elim
theorem fieldAddr_sound (E:Env C U V st a){s:TypeId}{x:Operand}{f:Nat}{K:PV->Prop}(h:fieldAddrK P st s x f K) :
  ∃v p,(Instr.fieldAt s (a.eval x) f).run P w = .ok v w/\RepV C st.toks U V v p/\K p:=by
 unfold fieldAddrK at h
 split at h
 ·rename_i fs hu
  replace h:=bindO_elim h; obtain⟨fd,hf,h⟩:=h
  replace h:=bindO_elim h; obtain⟨n,hn,hn0,h⟩:=h
  replace h:=bindO_elim h; obtain⟨p,hp,h⟩:=h
  split at h
  ·rename_i id off
   obtain⟨ev,hid⟩:=rep_ptr (ev_rep E hp)
   refine⟨_,_,?_,.ptr hid,h⟩
   simp[Instr.fieldAt,run_underlying hu,hf,ev,Instr.sureAddr,fieldPlace,run_sizeOf? hn,hn0,Addr.add_lit]
  ·rename_i cs
   obtain⟨b,o,ev,hS⟩:=rep_fp (ev_rep E hp)
   refine⟨_,_,?_,.fp (b:=b) (o:=o+fd.offset) (fun i p hp=>?_),h⟩
   ·simp[Instr.fieldAt,run_underlying hu,hf,ev,Instr.sureAddr,fieldPlace,run_sizeOf? hn,hn0,Addr.add_lit]
   ·rw[List.getElem?_drop]at hp
    have:=hS _ p hp
    rwa [<-Nat.add_assoc]at this
  ·exact h.elim
 ·exact h.elim
theorem load_sound (E:Env C U V st a)(R:Rel own S0 w0 C U V st w){t:TypeId}{x:Operand}{K:PV->Prop}(h:loadK P st t x K) :
  ∃v p,(Instr.loadAt t (a.eval x)).run P w = .ok v w/\RepV C st.toks U V v p/\K p:=by
 unfold loadK at h
 replace h:=bindO_elim h; obtain⟨p,hp,h⟩:=h
 split at h
 ·rename_i id off
  obtain⟨ev,hid⟩:=rep_ptr (ev_rep E hp)
  replace h:=bindO_elim h; obtain⟨o,ho,h⟩:=h
  split at h
  ·rename_i ty cs
   replace h:=bindO_elim h; obtain⟨q,hq,hk⟩:=h
   obtain⟨vs,hb,hsz,hrep⟩:=R.box id ty cs ho
   obtain⟨v,hv,hv2⟩:=run_loadVar_cells (P:=P) (b:=C.ρ id) (w:=w) (vs:=[]) (C:=C) (T:=st.toks) (U:=U) (V:=V) hq (fun i q hq=>by
    have hi:i<vs.size:=by rw[hsz]; exact(List.getElem?_eq_some_iff.1 hq).1
    have h1:vs[i]? = some vs[i]:=Array.getElem?_eq_getElem hi
    exact⟨vs[i],by rw[Nat.add_sub_cancel,cell_of_row w (C.ρ id) i vs ty (0,0) hb]; exact h1,(hrep i _ q h1 hq).1,(hrep i _ q h1 hq).2⟩)
   exact⟨v,q,by simp[Instr.loadAt,ev,Instr.sureAddr,hv],hv2,hk⟩
  ·exact h.elim
 ·rename_i cs
  obtain⟨b,o,ev,hS⟩:=rep_fp (ev_rep E hp)
  replace h:=bindO_elim h; obtain⟨q,hq,hk⟩:=h
  have hq':readCells P t (List.replicate o (.val .nilIface)++cs) o=some q:=by
   unfold readCells at hq ⊢
   split at hq
   ·split at hq
    ·rename_i n hn
     split at hq
     ·rename_i hl
      rw[if_pos (by simp; omega)]
      simpa using hq
     ·cases hq
    ·cases hq
   ·rw[List.getElem?_append_right (by simp)]
    simpa using hq
   ·cases hq
  unfold readCells at hq
  split at hq
  ·rename_i ha
   split at hq
   ·rename_i n hn
    split at hq
    ·rename_i hl
     obtain rfl:=Option.some.inj hq
     let f:Nat->Value:=fun j=>(w.cell? ⟨b,o+j,none⟩).getD undef
     have hf:∀j,j<n->∃q,cs[j]? = some q/\w.cell? ⟨b,o+j,none⟩=some (f j)/\RepF C.S (f j) q:=fun j hj=>by
      have hlt:j<cs.length:=by omega
      obtain⟨u,h1,h2⟩:=hS j _ (List.getElem?_eq_getElem hlt)
      have h3:=R.stable _ _ _ h1
      have:f j=u:=by simp[f,h3]
      exact⟨_,List.getElem?_eq_getElem hlt,by rw[this]; exact h3,by rw[this]; exact h2⟩
     refine⟨.agg ((List.range n).map f).toArray,_,?_,rep_aggL ?_,hk⟩
     ·have hl:=run_loadCells (P:=P) w ⟨b,o,none⟩ n f (fun j hj=>by rw[Addr.add_lit]; obtain⟨_,_,h,_⟩:=hf j hj; exact h)
      simp[Instr.loadAt,ev,Instr.sureAddr,loadVar,run_isAgg ha,run_sizeOf? hn,hl]
     ·refine⟨by simp; omega,fun i v p hv hp=>?_⟩
      have hi:i<n:=by
       have:=(List.getElem?_eq_some_iff.1 hv).1
       simpa using this
      obtain⟨q',h1,h2,h3⟩:=hf i hi
      have hv':v=f i:=by simp[hi]at hv; exact hv.symm
      have hp':p=q':=by
       rw[List.getElem?_take,if_pos hi,List.getElem?_drop,Nat.zero_add,h1]at hp
       exact(Option.some.inj hp).symm
      subst hv' hp'
      exact⟨h3.one,.frz h3⟩
    ·cases hq
   ·cases hq
  ·rename_i ha
   obtain⟨u,h1,h2⟩:=hS 0 q hq
   have h3:=R.stable _ _ _ h1
   rw[Nat.add_zero]at h3
   exact⟨u,q,by simp[Instr.loadAt,ev,Instr.sureAddr,loadVar,run_isAgg ha,h3],.frz h2,hk⟩
  ·cases hq
 ·exact h.elim
end
end Go.Pw

end
section
namespace Go.Pw
open Go Go.RowKit
set_option linter.unusedVariables false
set_option linter.unusedSimpArgs false
section
variable {P:Program} {own:Nat->Prop} {S0:Base} {w0 w:World} {C:Cx} {U V:Nat->Prop} {st:PS} {a:Act}
theorem run_mapM_list {α β:Type}(f:α->Sem β)(g:α->β)(w:World):∀(l:List α),(∀x∈l,(f x).run P w = .ok (g x) w)->(l.mapM f).run P w = .ok (l.map g) w
 | [],_=>by simp
 |x::r,h=>by
  have h1:=h x (by simp)
  have h2:=run_mapM_list f g w r (fun y hy=>h y (by simp[hy]))
  simp[List.mapM_cons,h1,h2]
theorem placesOf_get:∀(l:List Field)(pl:List (Nat×Nat)),placesOf P l=some pl->(∀f∈l,(sizeOf? P f.type).isSome=true)/\pl=l.map (fun f=>(f.offset,(sizeOf? P f.type).getD 0))
 | [],pl,h=>by simp only[placesOf,Option.some.injEq]at h; subst h; simp
 |f::r,pl,h=>by
  simp only[placesOf]at h
  split at h
  ·rename_i n l hn hl
   obtain rfl:=Option.some.inj h
   obtain⟨h1,h2⟩:=placesOf_get r l hl
   refine⟨fun g hg=>?_,by simp[hn,h2]⟩
   rcases List.mem_cons.1 hg with rfl|hg
   ·simp[hn]
   ·exact h1 g hg
  ·cases h
theorem run_places {fs:Array Field}{pl:List (Nat×Nat)}(h:placesOf P fs.toList=some pl)(w:World) :
  (fs.mapM fun f=>do pure (f.offset,<-sizeOf f.type):Sem (Array (Nat×Nat))).run P w = .ok pl.toArray w:=by
 obtain⟨h1,h2⟩:=placesOf_get _ _ h
 rw[Array.mapM_eq_mapM_toList]
 have:=run_mapM_list (P:=P) (fun f:Field=>(do pure (f.offset,<-sizeOf f.type):Sem (Nat×Nat))) (fun f=>(f.offset,(sizeOf? P f.type).getD 0)) w fs.toList (fun f hf=>by
  obtain⟨n,hn⟩:=Option.isSome_iff_exists.1 (h1 f hf)
  simp[run_sizeOf? hn,hn])
 rw[Sem.run_map,this]
 simp[h2]
theorem build_sound (E:Env C U V st a){t:TypeId}{parts:Array (Nat×Operand)}{K:PV->Prop}(h:buildK P st t parts.toList K) :
  ∃v p,(Instr.build t (parts.map fun (i,x)=>(i,a.eval x))).run P w = .ok v w/\RepV C st.toks U V v p/\K p:=by
 unfold buildK at h
 have hmap:(parts.map fun (i,x)=>(i,a.eval x)).toList=parts.toList.map fun x=>(x.1,a.eval x.2):=by simp
 have hz:∀z:Value,constOk z=true->RepL C st.toks U V z.cells.toList (constPV z).cells:=fun z hz=>
  (constPV_rep hz).cells (fun cs e=>by cases z<;>simp[constPV]at e)
 split at h
 ·rename_i fs hu
  replace h:=bindO_elim h
  obtain⟨z,hzero,h⟩:=h
  replace h:=bindO_elim h
  obtain⟨pl,hpl,h⟩:=h
  replace h:=bindO_elim h
  obtain⟨ps,hps,hc,hnt,h⟩:=h
  replace h:=bindO_elim h
  obtain⟨cs,hcs,hk⟩:=h
  obtain⟨e1,e2⟩:=evParts_rep E _ _ hps hnt
  obtain⟨us,hus,hrep⟩:=fill_rep _ _ z.cells _ _ e1 e2 (hz z hc) hcs
  have hplace:(fun i:Nat=>(pl.toArray)[i]?)=fun i:Nat=>pl[i]? :=by funext i; simp
  refine⟨.agg us,.agg cs,?_,rep_aggL hrep,hk⟩
  simp only[Instr.build,Sem.run_bind,run_zeroOf? hzero,Result.andThen_ok,run_underlying hu,run_places hpl,hmap,hplace,hus,Sem.run_pure]
 ·rename_i m e hu
  replace h:=bindO_elim h
  obtain⟨z,hzero,h⟩:=h
  replace h:=bindO_elim h
  obtain⟨n,hn,h⟩:=h
  replace h:=bindO_elim h
  obtain⟨ps,hps,hc,hnt,h⟩:=h
  replace h:=bindO_elim h
  obtain⟨cs,hcs,hk⟩:=h
  obtain⟨e1,e2⟩:=evParts_rep E _ _ hps hnt
  obtain⟨us,hus,hrep⟩:=fill_rep _ _ z.cells _ _ e1 e2 (hz z hc) hcs
  refine⟨.agg us,.agg cs,?_,rep_aggL hrep,hk⟩
  simp only[Instr.build,Sem.run_bind,run_zeroOf? hzero,Result.andThen_ok,run_underlying hu,run_sizeOf? hn,hmap,hus,Sem.run_pure]
 ·exact h.elim
theorem sl_slice {S:Cells}{v:Value}{xs:List (List PV)}(h:RepF S v (.sl xs)):∃A c,v = .slice A xs.length c/\(xs≠[]->A≠none):=by
 cases h with
 |sl f hn hc hsz hA hr=>
  refine⟨_,_,by rw[hn],fun hne e=>?_⟩
  have:0<xs.length:=List.length_pos_iff.2 hne
  obtain⟨b,o,h1,_⟩:=hA (by omega)
  rw[e]at h1
  cases h1
theorem len_sound (E:Env C U V st a){t ty:TypeId}{x:Operand}{K:PV->Prop}(h:lenK P st t x K) :
  ∃v p,(Builtin.len_ #[t] ty #[a.eval x]).run P w = .ok v w/\RepV C st.toks U V v p/\K p:=by
 unfold lenK at h
 split at h
 ·rename_i hu
  replace h:=bindO_elim h
  obtain⟨p,hp,h⟩:=h
  split at h
  ·rename_i s
   have e:a.eval x = .string s:=(rep_val (ev_rep E hp)).1
   exact⟨_,_,by simp[Builtin.len_,run_underlying hu,e]; rfl,.frz (.val rfl),h⟩
  ·exact h.elim
 ·rename_i e hu
  replace h:=bindO_elim h
  obtain⟨p,hp,h⟩:=h
  split at h
  ·obtain⟨A,c,e,_⟩:=sl_slice (rep_sl (.inl (ev_rep E hp)))
   exact⟨_,_,by simp[Builtin.len_,run_underlying hu,e]; rfl,.frz (.val rfl),h⟩
  ·obtain⟨A,c,e,_⟩:=sl_slice (rep_sl (.inr ⟨_,ev_rep E hp⟩))
   exact⟨_,_,by simp[Builtin.len_,run_underlying hu,e]; rfl,.frz (.val rfl),h⟩
  ·have e:a.eval x = .slice none 0 0:=(rep_val (ev_rep E hp)).1
   exact⟨_,_,by simp[Builtin.len_,run_underlying hu,e]; rfl,.frz (.val rfl),h⟩
  ·obtain⟨e,_⟩:=rep_ms (ev_rep E hp)
   exact⟨_,_,by simp[Builtin.len_,run_underlying hu,e]; rfl,.frz (.val rfl),h⟩
  ·exact h.elim
 ·rename_i m e hu
  exact⟨_,_,by simp[Builtin.len_,run_underlying hu]; rfl,.frz (.val rfl),h⟩
 ·exact h.elim
theorem run_equal_slice {t e:TypeId}(hu:P.underlying t=some (.slice e))(d:Nat)(b:Addr)(n c:Nat)(w:World):(Op.equalIn (d+1) t (.slice (some b) n c) (.slice none 0 0)).run P w = .ok false w:=by
 simp[Op.equalIn,run_underlying hu]
theorem run_equal_iface {t:TypeId} {ms}(hu:P.underlying t=some (.interface ms))(d:Nat)(u:TypeId)(v:Value)(w:World):(Op.equalIn (d+1) t (.iface u v) .nilIface).run P w = .ok false w:=by
 simp[Op.equalIn,run_underlying hu]
theorem run_equal_nilI {t:TypeId} {ms}(hu:P.underlying t=some (.interface ms))(d:Nat)(w:World):(Op.equalIn (d+1) t .nilIface .nilIface).run P w = .ok true w:=by
 simp[Op.equalIn,run_underlying hu]
theorem bin_sound (E:Env C U V st a){op:BinOp}{t yt:TypeId}{x y:Operand}{K:PV->Prop}(h:binK P st op t x y K) :
  ∃v p,(do eqGuard op t x y (a.eval x) (a.eval y); binOp op t (a.eval x) (a.eval y):Sem Value).run P w = .ok v w/\RepV C st.toks U V v p/\K p:=by
 unfold binK at h
 replace h:=bindO_elim h
 obtain⟨p,hp,h⟩:=h
 replace h:=bindO_elim h
 obtain⟨q,hq,h⟩:=h
 have key:∀xs:List (List PV),RepF C.S (a.eval x) (.sl xs)->a.eval y = .slice none 0 0->((∃e,P.underlying t=some (.slice e))/\xs≠[]/\isNilK op false K) ->
   ∃v p,(do eqGuard op t x y (a.eval x) (a.eval y); binOp op t (a.eval x) (a.eval y):Sem Value).run P w = .ok v w/\RepV C st.toks U V v p/\K p:=by
  intro xs hr ey ⟨⟨e,hu⟩,hne,h⟩
  obtain⟨A,c,ex,hA⟩:=sl_slice hr
  have hA':=hA hne
  cases A with
  |none=>exact absurd rfl hA'
  |some b=>
   have he:=run_equal_slice (P:=P) hu 9999 b xs.length c w
   have hguard:(eqGuard op t x y (.slice (some b) xs.length c) (.slice none 0 0)).run P w = .ok () w:=by cases op<;>rfl
   unfold isNilK at h
   rw[ex,ey]
   cases op<;>simp only at h<;>first
    |(exact h.elim)
    |(refine⟨_,_,?_,.frz (.val rfl),h⟩
      rw[Sem.run_bind,hguard]
      simp only[Result.andThen_ok,binOp]
      simp only[Op.equal,Op.maxDepth,Sem.run_bind,he,Result.andThen_ok,Sem.run_pure])
 split at h
 ·obtain⟨⟨ms,hu⟩,hc,h⟩:=h
  have ex:=(rep_val (ev_rep E hp)).1
  have ey:=(rep_val (ev_rep E hq)).1
  have he:=run_equal_nilI (P:=P) hu 9999 w
  have hguard:(eqGuard op t x y .nilIface .nilIface).run P w = .ok () w:=by
   cases y<;>simp only[constO,Bool.false_eq_true]at hc
   cases op<;>simp[eqGuard]
  unfold isNilK at h
  rw[ex,ey]
  cases op<;>simp only at h<;>first
   |(exact h.elim)
   |(refine⟨_,_,?_,.frz (.val rfl),h⟩
     rw[Sem.run_bind,hguard]
     simp only[Result.andThen_ok,binOp]
     simp only[Op.equal,Op.maxDepth,Sem.run_bind,he,Result.andThen_ok,Sem.run_pure])
 ·have ex:=(rep_val (ev_rep E hp)).1
  have ey:=(rep_val (ev_rep E hq)).1
  rw[ex,ey]
  obtain⟨v,h1,h2,h3⟩:=bopK_sound (x:=x) (y:=y) h w
  exact⟨v,_,h1,.frz (.val h2),h3⟩
 ·exact key _ (rep_sl (.inl (ev_rep E hp))) (rep_val (ev_rep E hq)).1 h
 ·exact key _ (rep_sl (.inr ⟨_,ev_rep E hp⟩)) (rep_val (ev_rep E hq)).1 h
 ·obtain⟨⟨ms,hu⟩,h⟩:=h
  obtain⟨u,ex,_⟩:=rep_iface (ev_rep E hp)
  have ey:=(rep_val (ev_rep E hq)).1
  rename_i t' _ _
  have he:=run_equal_iface (P:=P) hu 9999 t' u w
  have hguard:(eqGuard op t x y (.iface t' u) .nilIface).run P w = .ok () w:=by cases op<;>rfl
  unfold isNilK at h
  rw[ex,ey]
  cases op<;>simp only at h<;>first
   |(exact h.elim)
   |(refine⟨_,_,?_,.frz (.val rfl),h⟩
     rw[Sem.run_bind,hguard]
     simp only[Result.andThen_ok,binOp]
     simp only[Op.equal,Op.maxDepth,Sem.run_bind,he,Result.andThen_ok,Sem.run_pure])
 ·exact h.elim
theorem un_sound {op:UnOp}{v:Value}{p:PV}{T:List (Nat×Tok)}{U V:Nat->Prop}(r:RepV C T U V v p){K:PV->Prop}(h:unK op p K) :
  ∃u q,(Op.unary op v).run P w = .ok u w/\RepV C T U V u q/\K q:=by
 unfold unK at h
 split at h
 ·obtain⟨rfl,_⟩:=rep_val r
  exact⟨_,_,by simp[Op.unary,Op.intArith],.frz (.val rfl),h⟩
 ·obtain⟨rfl,_⟩:=rep_val r
  exact⟨_,_,by simp[Op.unary],.frz (.val rfl),h⟩
 ·exact h.elim
theorem numsOf_get:∀{xs:List (List PV)}{l:List Int},numsOf xs=some l->l.length=xs.length/\∀j,j<xs.length->xs[j]? = some [.val (.int .u8 (l.getD j 0))]
 | [],l,h=>by
  simp only[numsOf,Option.some.injEq]at h
  subst h
  exact⟨rfl,fun j hj=>absurd hj (Nat.not_lt_zero _)⟩
 |x::r,l,h=>by
  unfold numsOf at h
  split at h
  ·rename_i e; cases e
  ·rename_i n r' e
   obtain⟨rfl,rfl⟩:=List.cons.inj e
   obtain⟨l',hl,rfl⟩:=Option.map_eq_some_iff.1 h
   obtain⟨h1,h2⟩:=numsOf_get hl
   refine⟨by simp[h1],fun j hj=>?_⟩
   cases j with
   |zero=>rfl
   |succ j=>simpa using h2 j (by simpa using hj)
  ·cases h
theorem bytes_run {S:Cells}{v:Value}{xs:List (List PV)}{l:List Int}(hS:∀b o u,S b o=some u->w.cell? ⟨b,o,none⟩=some u)(r:RepF S v (.sl xs))(hl:numsOf xs=some l){src dst:TypeId}(hb:isBytes P src)(hd:P.underlying dst=some .string) :
  (convert src dst v).run P w = .ok (.string (strOfNums l)) w:=by
 obtain⟨e,hs,he⟩:=hb
 obtain⟨h1,h2⟩:=numsOf_get hl
 cases r with
 | @sl A n c sz _ f hn hc hsz hA hr=>
  cases l with
  |nil=>
   have hn0:n=0:=by simp at h1; omega
   subst hn0
   cases A with
   |none=>exact run_convert_bytes_nil w src e hs he _ _ dst hd
   |some a=>
    rw[run_convert_bytes_string w src dst e _ _ _ hs he hd]
    have:=run_bytesToString (P:=P) w a 0 c [] (by simp[loadCells,loadCellsFrom])
    rw[this]
    rfl
  |cons x l=>
   have h0:0<n:=by simp at h1; omega
   obtain⟨b,o,rfl,hc'⟩:=hA h0
   have hx0:=h2 0 (by omega)
   have hs1:sz=1:=by
    have:=hsz _ (List.mem_of_getElem? hx0)
    simpa using this.symm
   subst hs1
   refine run_convert_bytes_arg w src e hs he b o n c (x::l) (by omega) (fun i hi=>?_) dst hd
   have hxi:=h2 i (by omega)
   have h3:=hr i 0 _ _ hxi rfl
   have h4:=hS _ _ _ (hc' i 0 hi (by decide))
   rw[Nat.mul_one,Nat.add_zero]at h4
   rw[h4]
   generalize f i 0=u at h3
   cases h3
   rfl
theorem conv_sound {src dst:TypeId}{v:Value}{p:PV}{T:List (Nat×Tok)}{U V:Nat->Prop}(hS:∀b o u,C.S b o=some u->w.cell? ⟨b,o,none⟩=some u)(r:RepV C T U V v p){K:PV->Prop}(h:convK P src dst p K) :
  ∃u q,(convert src dst v).run P w = .ok u w/\RepV C T U V u q/\K q:=by
 unfold convK at h
 obtain⟨hs,h⟩:=h
 obtain⟨d,hd⟩:=Option.isSome_iff_exists.1 hs
 split at h
 ·rename_i hu
  obtain⟨rfl,_⟩:=rep_val r
  exact⟨_,_,by simp[convert,run_underlying hu,run_underlying hd,Conv.intToInt],.frz (.val rfl),h⟩
 ·rename_i hu
  obtain⟨rfl,_⟩:=rep_val r
  exact⟨_,_,by simp[convert,run_underlying hu,run_underlying hd,Conv.intToString],.frz (.val rfl),h⟩
 ·rename_i hu
  obtain⟨rfl,_⟩:=rep_val r
  exact⟨_,_,by simp[convert,run_underlying hu,run_underlying hd],.frz (.val rfl),h⟩
 ·rename_i hu
  obtain⟨hb,h⟩:=h
  replace h:=bindO_elim h
  obtain⟨l,hl,h⟩:=h
  exact⟨_,_,bytes_run hS (rep_sl (.inl r)) hl hb hu,.frz (.val rfl),h⟩
 ·rename_i hu
  obtain⟨hb,h⟩:=h
  replace h:=bindO_elim h
  obtain⟨l,hl,h⟩:=h
  exact⟨_,_,bytes_run hS (rep_sl (.inr ⟨_,r⟩)) hl hb hu,.frz (.val rfl),h⟩
 ·rename_i hu
  obtain⟨⟨e,hb,he⟩,h⟩:=h
  obtain⟨rfl,_⟩:=rep_val r
  exact⟨_,_,run_convert_bytes_nil w src e hb he _ _ dst hu,.frz (.val rfl),h⟩
 ·exact h.elim
theorem max2_sound {v u:Value}{p q:PV}{T:List (Nat×Tok)}{U V:Nat->Prop}(isMax:Bool)(r:RepV C T U V v p)(r':RepV C T U V u q){K:PV->Prop}(h:max2K isMax p q K) :
  ∃x z,((if isMax then Builtin.max2 else Builtin.min2) v u).run P w = .ok x w/\RepV C T U V x z/\K z:=by
 unfold max2K at h
 split at h
 ·obtain⟨rfl,_⟩:=rep_val r
  obtain⟨rfl,_⟩:=rep_val r'
  obtain⟨rfl,h⟩:=h
  cases isMax
  ·exact⟨_,_,by simp only[Builtin.min2,Bool.false_eq_true,if_false]; rfl,.frz (.val rfl),by simpa using h⟩
  ·exact⟨_,_,by simp only[Builtin.max2,if_true]; rfl,.frz (.val rfl),by simpa using h⟩
 ·exact h.elim
theorem call_sound (E:Env C U V st a){o:Oper}{c:Call}(ho:o.op = .call c){K:PV->Prop}(h:callV P st c K) :
  ∃v p,(execOp a.eval o).run P w = .ok (.value v) w/\RepV C st.toks U V v p/\K p:=by
 unfold callV at h
 split at h
 ·rename_i hc
  split at h
  ·rename_i x t hx ht
   obtain⟨v,p,h1,h2,h3⟩:=len_sound (P:=P) (w:=w) (ty:=o.type) E h
   have e1:c.args = #[x]:=by rw[<-Array.toArray_toList (xs:=c.args),hx]
   have e2:c.argTypes = #[t]:=by rw[<-Array.toArray_toList (xs:=c.argTypes),ht]
   refine⟨v,p,?_,h2,h3⟩
   simp[execOp,ho,resolve,hc,invoke,builtin,e1,e2,h1]
  ·exact h.elim
 ·rename_i hc
  split at h
  ·rename_i x y hx
   replace h:=bindO_elim h
   obtain⟨p,hp,h⟩:=h
   replace h:=bindO_elim h
   obtain⟨q,hq,h⟩:=h
   obtain⟨v,r,h1,h2,h3⟩:=max2_sound (P:=P) (w:=w) true (ev_rep E hp) (ev_rep E hq) h
   have e1:c.args = #[x,y]:=by rw[<-Array.toArray_toList (xs:=c.args),hx]
   refine⟨v,r,?_,h2,h3⟩
   simp only[if_true]at h1
   simp[execOp,ho,resolve,hc,invoke,builtin,e1,Builtin.max_,List.foldlM,h1]
  ·exact h.elim
 ·rename_i hc
  split at h
  ·rename_i x y hx
   replace h:=bindO_elim h
   obtain⟨p,hp,h⟩:=h
   replace h:=bindO_elim h
   obtain⟨q,hq,h⟩:=h
   obtain⟨v,r,h1,h2,h3⟩:=max2_sound (P:=P) (w:=w) false (ev_rep E hp) (ev_rep E hq) h
   have e1:c.args = #[x,y]:=by rw[<-Array.toArray_toList (xs:=c.args),hx]
   refine⟨v,r,?_,h2,h3⟩
   simp only[Bool.false_eq_true,if_false]at h1
   simp[execOp,ho,resolve,hc,invoke,builtin,e1,Builtin.min_,List.foldlM,h1]
  ·exact h.elim
 ·exact h.elim
theorem valK_sound (E:Env C U V st a)(R:Rel own S0 w0 C U V st w){o:Oper}{op:Op}(ho:o.op=op){K:PV->Prop}(h:valK P st op K) :
  ∃v p,(execOp a.eval o).run P w = .ok (.value v) w/\RepV C st.toks U V v p/\K p:=by
 unfold valK at h
 split at h
 ·replace h:=bindO_elim h
  obtain⟨p,hp,h⟩:=h
  exact⟨_,p,by simp[execOp,ho],ev_rep E hp,h⟩
 ·replace h:=bindO_elim h
  obtain⟨p,hp,h⟩:=h
  exact⟨_,p,by simp[execOp,ho],ev_rep E hp,h⟩
 ·replace h:=bindO_elim h
  obtain⟨c,hc,h⟩:=h
  split at h
  ·rename_i t
   have ec:=(rep_val (ev_rep E hc)).1
   cases t with
   |true=>
    have h1:=h.1 rfl
    replace h1:=bindO_elim h1
    obtain⟨p,hp,h1⟩:=h1
    exact⟨_,p,by simp[execOp,ho,ec,asBool],ev_rep E hp,h1⟩
   |false=>
    have h1:=h.2 rfl
    replace h1:=bindO_elim h1
    obtain⟨p,hp,h1⟩:=h1
    exact⟨_,p,by simp[execOp,ho,ec,asBool],ev_rep E hp,h1⟩
  ·exact h.elim
 ·obtain⟨v,p,h1,h2,h3⟩:=load_sound (P:=P) E R h
  exact⟨v,p,by simp[execOp,ho,h1],h2,h3⟩
 ·obtain⟨v,p,h1,h2,h3⟩:=build_sound (P:=P) (w:=w) E h
  exact⟨v,p,by simp only[execOp,ho]; simp only[Sem.run_bind,h1,Result.andThen_ok,Sem.run_pure],h2,h3⟩
 ·obtain⟨v,p,h1,h2,h3⟩:=bin_sound (P:=P) (w:=w) (yt:=0) E h
  exact⟨v,p,by simp only[execOp,ho]; rw[Sem.run_bind,h1]; rfl,h2,h3⟩
 ·replace h:=bindO_elim h
  obtain⟨p,hp,h⟩:=h
  obtain⟨v,q,h1,h2,h3⟩:=un_sound (P:=P) (w:=w) (ev_rep E hp) h
  exact⟨v,q,by simp[execOp,ho,h1],h2,h3⟩
 ·replace h:=bindO_elim h
  obtain⟨p,hp,h⟩:=h
  obtain⟨v,q,h1,h2,h3⟩:=conv_sound (P:=P) (w:=w) R.stable (ev_rep E hp) h
  exact⟨v,q,by simp[execOp,ho,h1],h2,h3⟩
 ·obtain⟨v,p,h1,h2,h3⟩:=slice_sound (P:=P) E R h
  exact⟨v,p,by simp[execOp,ho,h1],h2,h3⟩
 ·obtain⟨v,p,h1,h2,h3⟩:=fieldAddr_sound (P:=P) (w:=w) E h
  exact⟨v,p,by simp[execOp,ho,h1],h2,h3⟩
 ·obtain⟨v,p,h1,h2,h3⟩:=field_sound (P:=P) (w:=w) E h
  exact⟨v,p,by simp[execOp,ho,h1],h2,h3⟩
 ·obtain⟨v,p,h1,h2,h3⟩:=indexAddr_sound (P:=P) E R h
  exact⟨v,p,by simp[execOp,ho,h1],h2,h3⟩
 ·obtain⟨v,p,h1,h2,h3⟩:=index_sound (P:=P) E R h
  exact⟨v,p,by simp[execOp,ho,h1],h2,h3⟩
 ·rename_i x i
  replace h:=bindO_elim h
  obtain⟨p,hp,h⟩:=h
  split at h
  ·rename_i cs
   replace h:=bindO_elim h
   obtain⟨q,hq,h⟩:=h
   obtain⟨vs,ev,hs,hr⟩:=rep_tup (ev_rep E hp)
   have hi:i<vs.size:=by rw[hs]; exact(List.getElem?_eq_some_iff.1 hq).1
   have hv:vs[i]? = some vs[i]:=Array.getElem?_eq_getElem hi
   exact⟨vs[i],q,by simp[execOp,ho,Instr.extract,ev,hv],hr i _ q hv hq,h⟩
  ·exact h.elim
 ·rename_i t x
  replace h:=bindO_elim h
  obtain⟨u,hu,hn,h⟩:=h
  replace h:=bindO_elim h
  obtain⟨p,hp,h⟩:=h
  refine⟨.iface t (a.eval x),_,?_,.iface (ev_rep E hp),h⟩
  cases u<;>first|(cases hn; done)|simp[execOp,ho,Instr.makeInterface,run_underlying hu]
 ·rename_i f first caps
  split at h
  ·rename_i hf
   replace h:=bindO_elim h
   obtain⟨cs,hcs,h⟩:=h
   obtain⟨h1,h2⟩:=evAll_rep E _ _ hcs
   have e1:first = #[]:=by rw[<-Array.toArray_toList (xs:=first),hf]
   exact⟨.func (.func f) #[] (caps.map a.eval),_,by simp[execOp,ho,Instr.makeFunc,e1],.fn (by simpa using h1) (fun i v p hv hp=>h2 i v p (by simpa using hv) hp),h⟩
  ·rename_i x r hf
   obtain⟨hc,h⟩:=h
   replace h:=bindO_elim h
   obtain⟨cs,hcs,h⟩:=h
   rw[<-hf]at hcs
   obtain⟨h1,h2⟩:=evAll_rep E _ _ hcs
   have e1:caps = #[]:=by rw[<-Array.toArray_toList (xs:=caps),hc]
   exact⟨.func (.func f) (first.map a.eval) #[],_,by simp[execOp,ho,Instr.makeFunc,e1],.bm (by simpa using h1) (fun i v p hv hp=>h2 i v p (by simpa using hv) hp),h⟩
 ·rename_i x
  replace h:=bindO_elim h
  obtain⟨p,hp,h⟩:=h
  have hr:=ev_rep E hp
  split at h
  ·obtain⟨ev,_⟩:=rep_ptr hr
   exact⟨a.eval x,_,by simp[execOp,ho,ev],hr,h⟩
  ·obtain⟨b,o',ev,_⟩:=rep_fp hr
   exact⟨a.eval x,_,by simp[execOp,ho,ev],hr,h⟩
  ·obtain⟨vs,ev,_⟩:=rep_fn hr
   exact⟨a.eval x,_,by simp[execOp,ho,ev],hr,h⟩
  ·exact h.elim
 ·exact call_sound E ho h
 ·exact h.elim
end
end Go.Pw

end
section
namespace Go.Pw
open Go Go.RowKit
set_option linter.unusedVariables false
set_option linter.unusedSimpArgs false
section
variable {P:Program} {own:Nat->Prop} {S0:Base} {w0 w:World} {C:Cx} {U V:Nat->Prop} {st:PS} {a:Act}
theorem Rel.fresh (R:Rel own S0 w0 C U V st w)(o:Nat):C.S w.heap.size o=none:=by
 cases h:C.S w.heap.size o with
 |none=>rfl
 |some v=>
  have h1:=R.stable _ _ _ h
  have:=World.block_lt_of_cell? w _ h1
  simp at this
theorem cell_alloc_old {o:Obj}{b i:Nat}{v:Value}(h:w.cell? ⟨b,i,none⟩=some v):(w.alloc o).cell? ⟨b,i,none⟩=some v:=by
 have:=World.block_lt_of_cell? w _ h
 rw[World.cell?_alloc_lt _ _ _ this]
 exact h
theorem heap_lt {b:Nat}{o:Obj}(h:w.heap[b]? = some o):b<w.heap.size:=(Array.getElem?_eq_some_iff.1 h).1
theorem heap_alloc_lt {b:Nat}{o o':Obj}(h:w.heap[b]? = some o):(w.alloc o').heap[b]? = some o:=by
 show(w.heap.push o')[b]? = some o
 have:=heap_lt h
 rw[Array.getElem?_push,if_neg (by omega)]
 exact h
theorem heap_alloc_at (o:Obj):(w.alloc o).heap[w.heap.size]? = some o:=by
 show(w.heap.push o)[w.heap.size]? = some o
 simp
theorem Rel.drew (R:Rel own S0 w0 C U V st w):Rel own S0 w0 C U V st w.drew:=
 ⟨⟨R.frame.os,R.frame.tape,R.frame.output,R.frame.size,R.frame.block⟩,R.stable,R.box,R.iter,R.hown,R.hinj,R.tok,R.tbox,R.tinj,R.snew,R.sold,R.base,R.glob⟩
def Cx.at (C:Cx)(id b:Nat):Cx:={ C with ρ:=fun i=>if i=id then b else C.ρ i }
theorem Rel.ext_at (R:Rel own S0 w0 C U V st w)(b id:Nat)(hid:¬U id){U':Nat->Prop}(hU:∀i,U i->U' i):Ext C (C.at id b) st.toks st.toks U V U' V:=
 ⟨SLe.refl _,fun i hi=>by simp[Cx.at,show i≠id from fun e=>hid (e▸hi)],fun k t _ h=>⟨t,h,Nat.le_refl _,rfl,fun _=>rfl⟩,hU,fun _ h=>h⟩
theorem Rel.newObj (R:Rel own S0 w0 C U V st w)(nid:Nat)(hid:¬U nid){U':Nat->Prop}(hU:∀i,U i->U' i)(hU':U' nid)(ob:PObj)(o:Obj)
  (hb:∀T cs,ob = .box T cs->∃vs:Array Value,o = .cells vs T (0,0)/\RepL C st.toks U V vs.toList cs) (hi:∀s pos,ob = .iter s pos->o = .stringIter s pos) (nx' nt':Nat) :
  Rel own S0 w0 (C.at nid w.heap.size) U' V { st with heap:=(nid,ob)::st.heap,nx:=nx',nt:=nt' } (w.alloc o):=by
 have E:=R.ext_at w.heap.size nid hid hU
 have hne:∀id o,lkp st.heap id=some o->id≠nid:=fun id o h e=>hid (e▸(R.hown id o h).1)
 have hρ:∀id o,lkp st.heap id=some o->(C.at nid w.heap.size).ρ id=C.ρ id:=fun id o h=>by simp[Cx.at,hne id o h]
 have hnew:(C.at nid w.heap.size).ρ nid=w.heap.size:=by simp[Cx.at]
 refine⟨⟨R.frame.os,R.frame.tape,R.frame.output,by have:=R.frame.size; simp; omega,fun k hk hn=>?_⟩,fun b o v h=>cell_alloc_old (R.stable b o v h),?_,?_,?_,?_,?_,?_,R.tinj,R.snew,R.sold,R.base.trans E,R.glob⟩
 ·have hs:=R.frame.size
  rw[<-R.frame.block k hk hn]
  show(w.heap.push _)[k]? = _
  rw[Array.getElem?_push,if_neg (by omega)]
 ·intro id T cs h
  simp only[lkp_cons]at h
  split at h
  ·rename_i e
   subst e
   obtain⟨vs,rfl,hr⟩:=hb T cs (Option.some.inj h)
   refine⟨vs,by rw[hnew]; exact heap_alloc_at _,by simpa using hr.1,fun i v p hv hp=>?_⟩
   have:=hr.2 i v p (by simpa using hv) hp
   exact⟨this.1,this.2.ext E⟩
  ·obtain⟨vs,h1,h2,h3⟩:=R.box id T cs h
   exact⟨vs,by rw[hρ id _ h]; exact heap_alloc_lt h1,h2,fun i v p hv hp=>⟨(h3 i v p hv hp).1,(h3 i v p hv hp).2.ext E⟩⟩
 ·intro id s pos h
  simp only[lkp_cons]at h
  split at h
  ·rename_i e
   subst e
   rw[hnew,hi s pos (Option.some.inj h)]
   exact heap_alloc_at _
  ·rw[hρ id _ h]
   exact heap_alloc_lt (R.iter id s pos h)
 ·intro id ob' h
  simp only[lkp_cons]at h
  split at h
  ·rename_i e
   subst e
   rw[hnew]
   exact⟨hU',by simp,.inr (by have:=R.frame.size; omega),fun o'=>R.fresh o'⟩
  ·obtain⟨h1,h2,h3,h4⟩:=R.hown id ob' h
   rw[hρ id _ h]
   exact⟨hU _ h1,by simp; omega,h3,h4⟩
 ·intro i j oi oj h1 h2 he
  simp only[lkp_cons]at h1 h2
  split at h1<;>split at h2
  ·rename_i e1 e2
   rw[e1,e2]
  ·rename_i e1 e2
   subst e1
   rw[hnew,hρ j _ h2]at he
   have:=(R.hown j oj h2).2.1
   omega
  ·rename_i e1 e2
   subst e2
   rw[hnew,hρ i _ h1]at he
   have:=(R.hown i oi h1).2.1
   omega
  ·rw[hρ i _ h1,hρ j _ h2]at he
   exact R.hinj i j oi oj h1 h2 he
 ·intro k t h
  obtain⟨h1,h2,⟨vs,h3,h4⟩,h5,h6,h7⟩:=R.tok k t h
  exact⟨h1,h2,⟨vs,heap_alloc_lt h3,h4⟩,h5,h6,h7⟩
 ·intro i oi k t h1 h2
  obtain⟨_,_,⟨vs,h3,_⟩,_⟩:=R.tok k t h2
  simp only[lkp_cons]at h1
  split at h1
  ·rename_i e
   subst e
   rw[hnew]
   have h4:=heap_lt h3
   show w.heap.size≠(C.τ k).1
   omega
  ·rw[hρ i _ h1]
   exact R.tbox i oi k t h1 h2
theorem Rel.store (R:Rel own S0 w0 C U V st w){id:Nat}{T:TypeId}{cs:List PV}(ho:lkp st.heap id=some (.box T cs)){cs':List PV}{vs':Array Value}
  (hr:RepL C st.toks U V vs'.toList cs'):Rel own S0 w0 C U V { st with heap:=upd st.heap id (.box T cs') } (w.setRow (C.ρ id) vs'):=by
 obtain⟨vs,hb,hs,_⟩:=R.box id T cs ho
 obtain⟨hid,hlt,hown,hS⟩:=R.hown id _ ho
 have hother:∀k,k≠C.ρ id->(w.setRow (C.ρ id) vs').heap[k]? = w.heap[k]? :=fun k hk=>setRow_other w _ k _ hk
 have hup:∀j o,lkp (upd st.heap id (.box T cs')) j=some o->(j=id/\o = .box T cs')∨(j≠id/\lkp st.heap j=some o):=fun j o h=>by
  rw[lkp_upd]at h
  split at h
  ·exact .inl ⟨by assumption,(Option.some.inj h).symm⟩
  ·exact .inr ⟨by assumption,h⟩
 have hsize:(w.setRow (C.ρ id) vs').heap.size=w.heap.size:=by simp[World.setRow]
 refine⟨⟨R.frame.os,R.frame.tape,R.frame.output,by rw[hsize]; exact R.frame.size,fun k hk hn=>?_⟩,fun b o v h=>?_,?_,?_,?_,?_,?_,?_,R.tinj,R.snew,R.sold,R.base,R.glob⟩
 ·rw[hother k (fun e=>by subst e; rcases hown with h|h; exact hn h; omega)]
  exact R.frame.block k hk hn
 ·have hne:b≠C.ρ id:=fun e=>by subst e; rw[hS o]at h; cases h
  rw[World.cell?_of_block (w:=w) (hother b hne)]
  exact R.stable b o v h
 ·intro j T' cs'' h
  rcases hup j _ h with⟨rfl,e⟩|⟨hne,h⟩
  ·injection e with e1 e2
   subst e1 e2
   exact⟨vs',setRow_heap w _ vs vs' _ _ hb,by simpa using hr.1,fun i v p hv hp=>hr.2 i v p (by simpa using hv) hp⟩
  ·obtain⟨us,h1,h2,h3⟩:=R.box j T' cs'' h
   exact⟨us,by rw[hother _ (fun e=>hne (R.hinj j id _ _ h ho e))]; exact h1,h2,h3⟩
 ·intro j s pos h
  rcases hup j _ h with⟨rfl,e⟩|⟨hne,h⟩
  ·cases e
  ·rw[hother _ (fun e=>hne (R.hinj j id _ _ h ho e))]
   exact R.iter j s pos h
 ·intro j o h
  rw[hsize]
  rcases hup j _ h with⟨rfl,e⟩|⟨hne,h⟩
  ·exact⟨hid,hlt,hown,hS⟩
  ·exact R.hown j o h
 ·intro i j oi oj h1 h2 he
  rcases hup i _ h1 with⟨ei,e1⟩|⟨hne1,g1⟩<;>rcases hup j _ h2 with⟨ej,e2⟩|⟨hne2,g2⟩
  ·rw[ei,ej]
  ·rw[ei]at he ⊢; exact R.hinj _ _ _ _ ho g2 he
  ·rw[ej]at he ⊢; exact R.hinj _ _ _ _ g1 ho he
  ·exact R.hinj i j oi oj g1 g2 he
 ·intro k t h
  obtain⟨h1,h2,⟨us,h3,h4⟩,h5,h6,h7⟩:=R.tok k t h
  exact⟨h1,h2,⟨us,by rw[hother _ (fun e=>R.tbox id _ k t ho h e.symm)]; exact h3,h4⟩,h5,h6,h7⟩
 ·intro i oi k t h1 h2
  rcases hup i _ h1 with⟨rfl,e1⟩|⟨hne1,h1⟩
  ·exact R.tbox _ _ k t ho h2
  ·exact R.tbox i oi k t h1 h2
theorem Rel.step (R:Rel own S0 w0 C U V st w){id:Nat}{s:ByteArray}{pos:Nat}(ho:lkp st.heap id=some (.iter s pos))(pos':Nat) :
  Rel own S0 w0 C U V { st with heap:=upd st.heap id (.iter s pos') } { w with heap:=w.heap.setIfInBounds (C.ρ id) (.stringIter s pos') }:=by
 obtain⟨hid,hlt,hown,hS⟩:=R.hown id _ ho
 have hother:∀k,k≠C.ρ id->(w.heap.setIfInBounds (C.ρ id) (.stringIter s pos'))[k]? = w.heap[k]? :=fun k hk=>Array.getElem?_setIfInBounds_ne (Ne.symm hk)
 have hup:∀j o,lkp (upd st.heap id (.iter s pos')) j=some o->(j=id/\o = .iter s pos')∨(j≠id/\lkp st.heap j=some o):=fun j o h=>by
  rw[lkp_upd]at h
  split at h
  ·exact .inl ⟨by assumption,(Option.some.inj h).symm⟩
  ·exact .inr ⟨by assumption,h⟩
 refine⟨⟨R.frame.os,R.frame.tape,R.frame.output,by simpa using R.frame.size,fun k hk hn=>?_⟩,fun b o v h=>?_,?_,?_,?_,?_,?_,?_,R.tinj,R.snew,R.sold,R.base,R.glob⟩
 ·show(w.heap.setIfInBounds (C.ρ id) (.stringIter s pos'))[k]? = _
  rw[hother k (fun e=>by subst e; rcases hown with h|h; exact hn h; omega)]
  exact R.frame.block k hk hn
 ·have hne:b≠C.ρ id:=fun e=>by subst e; rw[hS o]at h; cases h
  rw[World.cell?_of_block (w:=w) (a:=⟨b,o,none⟩) (hother b hne)]
  exact R.stable b o v h
 ·intro j T' cs'' h
  rcases hup j _ h with⟨rfl,e⟩|⟨hne,h⟩
  ·cases e
  ·obtain⟨us,h1,h2,h3⟩:=R.box j T' cs'' h
   exact⟨us,by rw[hother _ (fun e=>hne (R.hinj j id _ _ h ho e))]; exact h1,h2,h3⟩
 ·intro j s' q h
  rcases hup j _ h with⟨rfl,e⟩|⟨hne,h⟩
  ·injection e with e1 e2
   subst e1 e2
   show(w.heap.setIfInBounds (C.ρ j) (.stringIter s' q))[C.ρ j]? = _
   simp[Array.getElem?_setIfInBounds,hlt]
  ·rw[hother _ (fun e=>hne (R.hinj j id _ _ h ho e))]
   exact R.iter j s' q h
 ·intro j o h
  rcases hup j _ h with⟨rfl,e⟩|⟨hne,h⟩
  ·exact⟨hid,by simpa using hlt,hown,hS⟩
  ·obtain⟨h1,h2,h3,h4⟩:=R.hown j o h
   exact⟨h1,by simpa using h2,h3,h4⟩
 ·intro i j oi oj h1 h2 he
  rcases hup i _ h1 with⟨ei,e1⟩|⟨hne1,g1⟩<;>rcases hup j _ h2 with⟨ej,e2⟩|⟨hne2,g2⟩
  ·rw[ei,ej]
  ·rw[ei]at he ⊢; exact R.hinj _ _ _ _ ho g2 he
  ·rw[ej]at he ⊢; exact R.hinj _ _ _ _ g1 ho he
  ·exact R.hinj i j oi oj g1 g2 he
 ·intro k t h
  obtain⟨h1,h2,⟨us,h3,h4⟩,h5,h6,h7⟩:=R.tok k t h
  exact⟨h1,h2,⟨us,by rw[hother _ (fun e=>R.tbox id _ k t ho h e.symm)]; exact h3,h4⟩,h5,h6,h7⟩
 ·intro i oi k t h1 h2
  rcases hup i _ h1 with⟨rfl,e1⟩|⟨hne1,h1⟩
  ·exact R.tbox _ _ k t ho h2
  ·exact R.tbox i oi k t h1 h2
def Cx.keep (C:Cx)(k g cap m:Nat)(cur:Array Value):Cx:=
 { ρ:=C.ρ,τ:=fun i=>if i=k then(g,cap) else C.τ i,S:=fun b o=>if b=g/\o<m then cur[o]? else C.S b o }
theorem Rel.row (R:Rel own S0 w0 C U V st w){w':World}{k g cap n:Nat}{e:TypeId}{sz:Nat}{cur:Array Value}
  (hfr:w'.os=w.os/\w'.tape=w.tape/\w'.output=w.output/\w.heap.size<=w'.heap.size/\∀b,b<w.heap.size->b≠g->w'.heap[b]? = w.heap[b]?)
  (hg:w'.heap[g]? = some (.cells cur e (0,0))) (hcur:cur.size=cap*sz) (hn:n<=cap) (hcap:cap<=maxLen)
  (hk:(lkp st.toks k=none/\¬V k/\w.heap.size<=g)∨∃t,lkp st.toks k=some t/\t.n<n/\t.sz=sz/\((g=(C.τ k).1/\cap=(C.τ k).2/\∀o v,C.S g o=some v->cur[o]? = some v)∨w.heap.size<=g))
  {V':Nat->Prop} (hnt:∀i,V i->V' i) (hk':V' k) (nx' nt':Nat) :
  Rel own S0 w0 (C.keep k g cap (n*sz) cur) U V' { st with toks:=upd st.toks k ⟨e,sz,n⟩,nx:=nx',nt:=nt' } w'/\Ext C (C.keep k g cap (n*sz) cur) st.toks (upd st.toks k ⟨e,sz,n⟩) U V U V':=by
 obtain⟨f1,f2,f3,f4,f5⟩:=hfr
 have hglt:g<w'.heap.size:=heap_lt hg
 have hSg:∀o v,C.S g o=some v->cur[o]? = some v/\o<n*sz:=by
  intro o v h
  rcases hk with⟨_,_,hge⟩|⟨t,ht,htn,hts,hcase⟩
  ·have:=World.block_lt_of_cell? w _ (R.stable g o v h)
   simp at this
   omega
  ·rcases hcase with⟨hgτ,_,hc⟩|hge
   ·refine⟨hc o v h,?_⟩
    obtain⟨_,_,_,_,_,h7⟩:=R.tok k t ht
    apply Classical.byContradiction
    intro hlt
    have hle:t.n*t.sz<=o:=Nat.le_trans (by rw[hts]; exact Nat.mul_le_mul_right _ (Nat.le_of_lt htn)) (Nat.le_of_not_lt hlt)
    have:=h7 o hle
    rw[<-hgτ,h]at this
    cases this
   ·have:=World.block_lt_of_cell? w _ (R.stable g o v h)
    simp at this
    omega
 have hgowned:own g∨w0.heap.size<=g:=by
  have hs:=R.frame.size
  rcases hk with⟨_,_,hge⟩|⟨t,ht,_,_,⟨hgτ,_⟩|hge⟩
  ·exact .inr (by omega)
  ·rw[hgτ]; exact(R.tok k t ht).2.1
  ·exact .inr (by omega)
 have hgbox:∀i oi,lkp st.heap i=some oi->C.ρ i≠g:=by
  intro i oi h
  rcases hk with⟨_,_,hge⟩|⟨t,ht,_,_,⟨hgτ,_⟩|hge⟩
  ·have:=(R.hown i oi h).2.1; omega
  ·rw[hgτ]; exact R.tbox i oi k t h ht
  ·have:=(R.hown i oi h).2.1; omega
 have hgtok:∀j tj,lkp st.toks j=some tj->j≠k->(C.τ j).1≠g:=by
  intro j tj h hne
  obtain⟨_,_,⟨us,h3,_⟩,_⟩:=R.tok j tj h
  have:=heap_lt h3
  rcases hk with⟨_,_,hge⟩|⟨t,ht,_,_,⟨hgτ,_⟩|hge⟩
  ·omega
  ·rw[hgτ]; exact fun e=>hne (R.tinj j k tj t h ht e)
  ·omega
 have hSle:SLe C.S (C.keep k g cap (n*sz) cur).S:=by
  intro b o v h
  show(if b=g/\o<n*sz then cur[o]? else C.S b o)=some v
  split
  ·rename_i hc
   rw[hc.1]at h
   exact(hSg o v h).1
  ·exact h
 have hup:∀j t,lkp (upd st.toks k ⟨e,sz,n⟩) j=some t->(j=k/\t=⟨e,sz,n⟩)∨(j≠k/\lkp st.toks j=some t):=fun j t h=>by
  rw[lkp_upd]at h
  split at h
  ·exact .inl ⟨by assumption,(Option.some.inj h).symm⟩
  ·exact .inr ⟨by assumption,h⟩
 have hτk:(C.keep k g cap (n*sz) cur).τ k=(g,cap):=by simp[Cx.keep]
 have hτ:∀j,j≠k->(C.keep k g cap (n*sz) cur).τ j=C.τ j:=fun j hj=>by simp[Cx.keep,hj]
 have hext:Ext C (C.keep k g cap (n*sz) cur) st.toks (upd st.toks k ⟨e,sz,n⟩) U V U V':=by
  refine⟨hSle,fun _ _=>rfl,fun j t' hj h=>?_,fun _ h=>h,hnt⟩
  rcases hup j t' h with⟨rfl,rfl⟩|⟨hne,h⟩
  ·rcases hk with⟨_,hge,_⟩|⟨t,ht,htn,hts,_⟩
   ·exact absurd hj hge
   ·exact⟨t,ht,Nat.le_of_lt htn,hts.symm,fun e=>by simp only at e; omega⟩
  ·exact⟨t',h,Nat.le_refl _,rfl,fun _=>hτ j hne⟩
 refine⟨⟨⟨f1.trans R.frame.os,f2.trans R.frame.tape,f3.trans R.frame.output,Nat.le_trans R.frame.size f4,fun b hb hno=>?_⟩,?_,?_,?_,?_,R.hinj,?_,?_,?_,?_,R.sold.trans hSle,R.base.trans hext,R.glob⟩,hext⟩
 ·have hs:=R.frame.size
  rw[f5 b (by omega) (fun e=>by subst e; rcases hgowned with h|h; exact hno h; omega)]
  exact R.frame.block b hb hno
 ·intro b o v h
  by_cases hb:b=g
  ·subst hb
   have hc:cur[o]? = some v:=by
    have h':(if b=b/\o<n*sz then cur[o]? else C.S b o)=some v:=h
    split at h'
    ·exact h'
    ·exact(hSg o v h').1
   simp[World.cell?,hg,hc]
  ·have h':C.S b o=some v:=by
    have h':(if b=g/\o<n*sz then cur[o]? else C.S b o)=some v:=h
    rwa [if_neg (fun e=>hb e.1)]at h'
   have h1:=R.stable b o v h'
   have hlt:=World.block_lt_of_cell? w _ h1
   rw[World.cell?_of_block (w:=w) (a:=⟨b,o,none⟩) (f5 b hlt hb)]
   exact h1
 ·intro id T cs h
  obtain⟨vs,h1,h2,h3⟩:=R.box id T cs h
  refine⟨vs,?_,h2,fun i v p hv hp=>⟨(h3 i v p hv hp).1,(h3 i v p hv hp).2.ext hext⟩⟩
  show w'.heap[C.ρ id]? = _
  rw[f5 _ (heap_lt h1) (hgbox id _ h)]
  exact h1
 ·intro id s pos h
  have h1:=R.iter id s pos h
  show w'.heap[C.ρ id]? = _
  rw[f5 _ (heap_lt h1) (hgbox id _ h)]
  exact h1
 ·intro id o h
  obtain⟨h1,h2,h3,h4⟩:=R.hown id o h
  refine⟨h1,Nat.lt_of_lt_of_le h2 f4,h3,fun o'=>?_⟩
  show(if C.ρ id=g/\o'<n*sz then cur[o']? else C.S (C.ρ id) o')=none
  rw[if_neg (fun e=>hgbox id _ h e.1)]
  exact h4 o'
 ·intro j t h
  rcases hup j t h with⟨rfl,rfl⟩|⟨hne,h⟩
  ·rw[hτk]
   refine⟨hk',hgowned,⟨cur,hg,hcur⟩,hn,hcap,fun o ho=>?_⟩
   show(if g=g/\o<n*sz then cur[o]? else C.S g o)=none
   rw[if_neg (fun e=>by simp only at ho; omega)]
   cases hS:C.S g o with
   |none=>rfl
   |some v=>have:=(hSg o v hS).2; simp only at ho; omega
  ·obtain⟨h1,h2,⟨vs,h3,h4⟩,h5,h6,h7⟩:=R.tok j t h
   have hjg:=hgtok j t h hne
   rw[hτ j hne]
   refine⟨hnt _ h1,h2,⟨vs,by rw[f5 _ (heap_lt h3) hjg]; exact h3,h4⟩,h5,h6,fun o ho=>?_⟩
   show(if(C.τ j).1=g/\o<n*sz then cur[o]? else C.S (C.τ j).1 o)=none
   rw[if_neg (fun e=>hjg e.1)]
   exact h7 o ho
 ·intro i oi j t h1 h2
  show C.ρ i≠_
  rcases hup j t h2 with⟨rfl,rfl⟩|⟨hne,h2⟩
  ·rw[hτk]; exact hgbox i oi h1
  ·rw[hτ j hne]; exact R.tbox i oi j t h1 h2
 ·intro i j ti tj h1 h2 he
  rcases hup i ti h1 with⟨ei,e1⟩|⟨hne1,g1⟩<;>rcases hup j tj h2 with⟨ej,e2⟩|⟨hne2,g2⟩
  ·rw[ei,ej]
  ·rw[ei,hτk,hτ j hne2]at he
   exact absurd he.symm (hgtok j tj g2 hne2)
  ·rw[ej,hτk,hτ i hne1]at he
   exact absurd he (hgtok i ti g1 hne1)
  ·rw[hτ i hne1,hτ j hne2]at he
   exact R.tinj i j ti tj g1 g2 he
 ·intro b o v h
  have h':(if b=g/\o<n*sz then cur[o]? else C.S b o)=some v:=h
  split at h'
  ·rename_i hc
   rw[hc.1]
   exact .inr hgowned
  ·exact R.snew b o v h'
end
end Go.Pw

end
section
namespace Go.Pw
open Go Go.RowKit
set_option linter.unusedVariables false
set_option linter.unusedSimpArgs false
def fz:PV->Option PV
 | .val (.slice none 0 0)=>some (.sl [])
 | .val v=>some (.val v)
 | .sl xs=>some (.sl xs)
 | .row _ xs=>some (.sl xs)
 |_=>none
def fzL:List PV->Option (List PV)
 | []=>some []
 |p::r=>match fz p,fzL r with
  |some q,some l=>some (q::l)
  |_,_=>none
def fzLL:List (List PV)->Option (List (List PV))
 | []=>some []
 |p::r=>match fzL p,fzLL r with
  |some q,some l=>some (q::l)
  |_,_=>none
def fzC:PV->Option PV
 | .fp cs=>some (.fp cs)
 |p=>fz p
def fzCL:List PV->Option (List PV)
 | []=>some []
 |p::r=>match fzC p,fzCL r with
  |some q,some l=>some (q::l)
  |_,_=>none
def fzA:PV->Option PV
 | .agg cs=>(fzL cs).map .agg
 | .fp cs=>some (.fp cs)
 | .fn f cs=>(fzCL cs).map (.fn f)
 |p=>fz p
def fzAs:List PV->Option (List PV)
 | []=>some []
 |p::r=>match fzA p,fzAs r with
  |some q,some l=>some (q::l)
  |_,_=>none
abbrev C0 (S:Cells):Cx:=⟨fun _=>0,fun _=>(0,0),S⟩
def Never:Nat->Prop:=fun _=>False
abbrev RepA (S:Cells):Value->PV->Prop:=RepV (C0 S) [] Never Never
theorem RepA.up {C:Cx}{T:List (Nat×Tok)}{U V:Nat->Prop}{v:Value}{p:PV}(h:RepA C.S v p):RepV C T U V v p:=
 RepV.ext (C:=C0 C.S) (C':=C) (T':=T) (U':=U) (V':=V) ⟨SLe.refl _,fun _ h=>h.elim,fun _ _ h=>h.elim,fun _ h=>h.elim,fun _ h=>h.elim⟩ h
def Stable (S:Cells)(w:World):Prop:=∀b o v,S b o=some v->w.cell? ⟨b,o,none⟩=some v
section
variable {C:Cx} {T:List (Nat×Tok)} {U V:Nat->Prop}
theorem fz_rep {v:Value}{p q:PV}(h:fz p=some q)(r:RepV C T U V v p):RepF C.S v q:=by
 unfold fz at h
 split at h
 ·obtain rfl:=Option.some.inj h
  obtain⟨rfl,_⟩:=rep_val r
  exact .sl (sz:=0) (fun _ _=> .nilIface) rfl (Nat.le_refl _) (by simp) (by simp) (by simp)
 ·obtain rfl:=Option.some.inj h
  obtain⟨rfl,h1⟩:=rep_val r
  exact .val h1
 ·obtain rfl:=Option.some.inj h
  exact rep_sl (.inl r)
 ·obtain rfl:=Option.some.inj h
  exact rep_sl (.inr ⟨_,r⟩)
 ·cases h
theorem fzL_get:∀{ps qs:List PV},fzL ps=some qs->ps.length=qs.length/\∀(i:Nat)(p q:PV),ps[i]? = some p->qs[i]? = some q->fz p=some q
 | [],qs,h=>by
  simp only[fzL,Option.some.injEq]at h
  subst h
  exact⟨rfl,fun i p q hp=>by simp at hp⟩
 |p::r,qs,h=>by
  simp only[fzL]at h
  split at h
  ·rename_i q l hq hl
   obtain rfl:=Option.some.inj h
   obtain⟨h1,h2⟩:=fzL_get hl
   refine⟨by simp[h1],fun i p q hp hq=>?_⟩
   cases i with
   |zero=>simp at hp hq; subst hp hq; assumption
   |succ i=>exact h2 i p q (by simpa using hp) (by simpa using hq)
  ·cases h
theorem fzLL_get:∀{ps qs:List (List PV)},fzLL ps=some qs->ps.length=qs.length/\∀(i:Nat)(p q:List PV),ps[i]? = some p->qs[i]? = some q->fzL p=some q
 | [],qs,h=>by
  simp only[fzLL,Option.some.injEq]at h
  subst h
  exact⟨rfl,fun i p q hp=>by simp at hp⟩
 |p::r,qs,h=>by
  simp only[fzLL]at h
  split at h
  ·rename_i q l hq hl
   obtain rfl:=Option.some.inj h
   obtain⟨h1,h2⟩:=fzLL_get hl
   refine⟨by simp[h1],fun i p q hp hq=>?_⟩
   cases i with
   |zero=>simp at hp hq; subst hp hq; assumption
   |succ i=>exact h2 i p q (by simpa using hp) (by simpa using hq)
  ·cases h
theorem fzCL_get:∀{ps qs:List PV},fzCL ps=some qs->ps.length=qs.length/\∀(i:Nat)(p q:PV),ps[i]? = some p->qs[i]? = some q->fzC p=some q
 | [],qs,h=>by
  simp only[fzCL,Option.some.injEq]at h
  subst h
  exact⟨rfl,fun i p q hp=>by simp at hp⟩
 |p::r,qs,h=>by
  simp only[fzCL]at h
  split at h
  ·rename_i q l hq hl
   obtain rfl:=Option.some.inj h
   obtain⟨h1,h2⟩:=fzCL_get hl
   refine⟨by simp[h1],fun i p q hp hq=>?_⟩
   cases i with
   |zero=>simp at hp hq; subst hp hq; assumption
   |succ i=>exact h2 i p q (by simpa using hp) (by simpa using hq)
  ·cases h
theorem fzC_rep {v:Value}{p q:PV}(h:fzC p=some q)(r:RepV C T U V v p):RepA C.S v q:=by
 unfold fzC at h
 split at h
 ·obtain rfl:=Option.some.inj h
  obtain⟨b,o,rfl,hS⟩:=rep_fp r
  exact .fp hS
 ·exact .frz (fz_rep (C:=C) h r)
theorem fzA_rep {v:Value}{p q:PV}(h:fzA p=some q)(r:RepV C T U V v p):RepA C.S v q:=by
 unfold fzA at h
 split at h
 ·obtain⟨qs,hq,rfl⟩:=Option.map_eq_some_iff.1 h
  obtain⟨vs,rfl,hr⟩:=rep_agg r
  obtain⟨h1,h2⟩:=fzL_get hq
  refine rep_aggL ⟨hr.1.trans h1,fun i v q hv hq=>?_⟩
  have hi:i<vs.toList.length:=(List.getElem?_eq_some_iff.1 hv).1
  have hp:=List.getElem?_eq_getElem (show i<_ from hr.1▸hi)
  have h3:=hr.2 i v _ hv hp
  exact⟨h3.1,.frz (fz_rep (C:=C) (h2 i _ q hp hq) h3.2)⟩
 ·obtain rfl:=Option.some.inj h
  obtain⟨b,o,rfl,hS⟩:=rep_fp r
  exact .fp hS
 ·obtain⟨qs,hq,rfl⟩:=Option.map_eq_some_iff.1 h
  obtain⟨vs,rfl,hs,hr⟩:=rep_fn r
  obtain⟨h1,h2⟩:=fzCL_get hq
  refine .fn (by omega) (fun i v q hv hq=>?_)
  have hi:i<_:=(List.getElem?_eq_some_iff.1 hq).1
  have hp:=List.getElem?_eq_getElem (show i<_ from h1▸hi)
  exact fzC_rep (h2 i _ q hp hq) (hr i v _ hv hp)
 ·exact .frz (fz_rep (C:=C) h r)
theorem fzAs_get:∀{ps qs:List PV},fzAs ps=some qs->ps.length=qs.length/\∀(i:Nat)(p q:PV),ps[i]? = some p->qs[i]? = some q->fzA p=some q
 | [],qs,h=>by
  simp only[fzAs,Option.some.injEq]at h
  subst h
  exact⟨rfl,fun i p q hp=>by simp at hp⟩
 |p::r,qs,h=>by
  simp only[fzAs]at h
  split at h
  ·rename_i q l hq hl
   obtain rfl:=Option.some.inj h
   obtain⟨h1,h2⟩:=fzAs_get hl
   refine⟨by simp[h1],fun i p q hp hq=>?_⟩
   cases i with
   |zero=>simp at hp hq; subst hp hq; assumption
   |succ i=>exact h2 i p q (by simpa using hp) (by simpa using hq)
  ·cases h
end
def enters (P:Program)(f:FuncId):Bool:=match P.funcs[f]? with
 | some fn => !(fn.name == "runtime.NumGoroutine") && fn.body.isSome
 |none=>false
theorem run_callFunc {P:Program}{f:FuncId}(h:enters P f=true)(args:Array Value)(w:World):(callFunc f args).run P w = .ok (.enter f args) w:=by
 unfold enters at h
 split at h
 ·rename_i fn hf
  simp only[Bool.and_eq_true,Bool.not_eq_true']at h
  have hb:fn.body.isNone=false:=by cases hx:fn.body<;>simp_all
  have hn : ¬ (fn.name == "runtime.NumGoroutine") = true := by rw [h.1]; simp
  unfold callFunc
  simp only[Sem.run_bind,run_program,Result.andThen_ok,hf]
  rw[if_neg hn]
  simp only[hb,Bool.false_eq_true,if_false,Sem.run_pure]
 ·cases h
def Ok (P:Program)(f:FuncId)(args:List PV)(r:PV):Prop:=
 enters P f=true/\∀(S:Cells) (w:World) (vals:Array Value),Known w->Stable S w->vals.size=args.length->(∀(i:Nat) (v:Value) (p:PV),vals[i]? = some v->args[i]? = some p->RepA S v p) ->
  Calls P f vals w fun e w'=>∃v S',e = .returned v/\SLe S S'/\Stable S' w'/\(∀b o u,S' b o=some u->S b o=some u∨w.heap.size<=b)/\RepA S' v r/\Below w.heap.size w w'
def extPV:Value->PV
 | .tuple vs=> .tup (vs.toList.map .val)
 |v=> .val v
def extOk:Value->Bool
 | .tuple vs=>vs.toList.all (·.oneCell')
 |v=>v.oneCell'
inductive CallP (P:Program) (g:FuncId) (ags:List PV) (K:PV->Prop):Prop
 |pure (as':List PV) (r:PV) (hf:fzAs ags=some as') (ok:Ok P g as' r) (k:K r):CallP P g ags K
 |ext (vs:List Value) (r:Value) (ha:ags=vs.map .val) (hr:∀w,(callFunc g vs.toArray).run P w = .ok (.value r) w) (ho:extOk r=true) (k:K (extPV r)):CallP P g ags K
theorem extPV_rep {C:Cx}{T:List (Nat×Tok)}{U V:Nat->Prop}{r:Value}(h:extOk r=true):RepV C T U V r (extPV r):=by
 cases r with
 |tuple vs=>
  simp only[extOk,List.all_eq_true]at h
  refine .tup (by simp) (fun i v p hv hp=>?_)
  have hv':vs.toList[i]? = some v:=by simpa using hv
  rw[List.getElem?_map,hv']at hp
  obtain rfl:=Option.some.inj hp
  exact .frz (.val (h v (List.mem_of_getElem? hv')))
 |_=>exact .frz (.val h)
def callK (P:Program)(st:PS)(c:Call)(K:PV->Prop):Prop:=
 match c.callee with
 | .value f=>bindO (st.ev f) fun pf=>match pf with
  | .fn g caps=>bindO (evAll st c.args.toList) fun ags=>CallP P g (ags++caps) K
  |_=>False
 |_=>False
structure Delta where
 obj:Option (Bool×Nat×PObj)
 tok:Option (Nat×Tok)
 res:Option PV
def Delta.apply (dst:Option Tmp)(st:PS)(d:Delta):PS:=
 let st1:PS:={ st with
  heap:=match d.obj with
   |some (true,i,ob)=>(i,ob)::st.heap
   |some (false,i,ob)=>upd st.heap i ob
   |none=>st.heap,
  toks:=match d.tok with
   |some (k,t)=>upd st.toks k t
   |none=>st.toks }
 match d.res with
 |some p=>st1.put dst p
 |none=>st1.kill dst
def Delta.val (p:PV):Delta:=⟨none,none,some p⟩
def chunks (sz n:Nat)(cs:List PV):List (List PV):=(List.range n).map fun j=>(cs.drop (j*sz)).take sz
def srcXs (st:PS)(sz:Nat):PV->Option (List (List PV))
 | .sl ys=>some ys
 | .row _ ys=>some ys
 | .val (.slice none 0 0)=>some []
 | .ms id lo n _=>match lkp st.heap id with
  |some (.box _ cs)=>if lo+n*sz<=cs.length then some (chunks sz n (cs.drop lo)) else none
  |_=>none
 |_=>none
def sliceLike:PV->Bool
 | .val (.slice none 0 0)=>true
 | .sl _=>true
 | .row _ _=>true
 | .ms _ _ _ _=>true
 |_=>false
def appTail (st:PS)(tk0:Nat)(e:TypeId)(sz by_:Nat)(d:PV)(ys:List (List PV))(K:Delta->Prop):Prop:=
 match ys with
 | []=>sliceLike d=true/\K (.val d)
 |y0::r=>match d with
  | .val (.slice none 0 0)=>(y0::r).length*by_<=140737488355328/\(y0::r).length<=9223372036854775807 /\
   K ⟨none,some (tk0,⟨e,sz,(y0::r).length⟩),some (.row tk0 (y0::r))⟩
  | .row k xs=>bindO (lkp st.toks k) fun tk=>tk.n=xs.length/\tk.e=e/\tk.sz=sz/\(xs.length+(y0::r).length)*by_<=140737488355328/\xs.length+(y0::r).length<=9223372036854775807 /\
   K ⟨none,some (k,⟨e,sz,xs.length+(y0::r).length⟩),some (.row k (xs++(y0::r)))⟩
  | .ms id lo n cap=>n=cap/\bindO (srcXs st sz (.ms id lo n cap)) fun xs0=>bindO (fzLL xs0) fun xs=>(∀x∈xs,x.length=sz)/\(xs.length+(y0::r).length)*by_<=140737488355328/\xs.length+(y0::r).length<=9223372036854775807 /\
   K ⟨none,some (tk0,⟨e,sz,xs.length+(y0::r).length⟩),some (.row tk0 (xs++(y0::r)))⟩
  |_=>False
def encS (s:ByteArray):List (List PV):=s.data.toList.map fun b=>[.val (.int .u8 b.toNat)]
def appendK (P:Program)(st:PS)(tk0:Nat)(c:Call)(K:Delta->Prop):Prop:=
 match c.args.toList,c.argTypes.toList with
 | [x,y],[t,t']=>match P.underlying t with
  |some (.slice e)=>bindO (sizeOf? P e) fun sz=>bindO (bytesOf? P e) fun by_=>bindO (zeroOf? P e) fun z=>z.cells.size=sz/\0<sz /\
   bindO (st.ev x) fun d=>bindO (st.ev y) fun s=>match s with
   | .val (.string s)=>P.underlying t'=some .string/\sz=1/\z = .int .u8 0/\appTail st tk0 e 1 by_ d (encS s) K
   |s=>t=t'/\bindO (srcXs st sz s) fun ys0=>bindO (fzLL ys0) fun ys=>(∀y∈ys,y.length=sz)/\appTail st tk0 e sz by_ d ys K
  |_=>False
 |_,_=>False
def valsOf:List (Nat×PV)->Nat->Option (List (List PV))
 | [],_=>some []
 |(i,p)::r,k=>if i=k then match fzL p.cells,valsOf r (k+1)with
   |some c,some l=>some (c::l)
   |_,_=>none
  else none
def notTup:PV->Bool
 | .tup _=>false
 |_=>true
def stepD (P:Program)(o:Oper)(st:PS)(id tk:Nat)(K:Delta->Prop):Prop:=
 match o.op with
 | .alloc T=>bindO (zeroOf? P T) fun z=>constOk z=true/\K ⟨some (true,id,.box T (constPV z).cells),none,some (.ptr id 0)⟩
 | .box T x=>bindO (st.ev x) fun p=>notTup p=true/\K ⟨some (true,id,.box T p.cells),none,some (.ptr id 0)⟩
 | .store t x y=>bindO (st.ev x) fun p=>bindO (st.ev y) fun q=>match p with
  | .ptr id1 off=>bindO (lkp st.heap id1) fun ob=>match ob with
   | .box T cs=>sizeOf? P t=some q.cells.length/\notTup q=true/\off+q.cells.length<=cs.length /\
    K ⟨some (false,id1,.box T (cs.take off++q.cells++cs.drop (off+q.cells.length))),none,none⟩
   |_=>False
  |_=>False
 | .buildSlice t len parts=>match P.underlying t with
  |some (.slice e)=>bindO (sizeOf? P e) fun sz=>bindO (zeroOf? P e) fun z=>bindO (evParts st parts.toList) fun ps=>bindO (valsOf ps 0) fun xs=>
   0<sz/\z.cells.size=sz/\(∀x∈xs,x.length=sz)/\xs.length=len/\len*sz<=16777216/\K ⟨none,some (tk,⟨e,sz,len⟩),some (.row tk xs)⟩
  |_=>False
 | .makeSlice t l c=>match P.underlying t with
  |some (.slice e)=>bindO (sizeOf? P e) fun sz=>bindO (bytesOf? P e) fun by_=>bindO (zeroOf? P e) fun z=>bindO (st.ev l) fun p=>bindO (st.ev c) fun q=>intK p fun n=>intK q fun m=>
   constOk z=true/\z.cells.size=sz/\0<sz/\n=m/\0<=n/\n<=9223372036854775807/\by_*n<=281474976710656 /\
    K ⟨some (true,id,.box e ((List.range (n.toNat*sz)).map fun i=>(constPV z).cells.getD (i%sz) (.val .nilIface))),none,some (.ms id 0 n.toNat n.toNat)⟩
  |_=>False
 | .range t x=>P.underlying t=some .string/\bindO (st.ev x) fun p=>match p with
  | .val (.string s)=>K ⟨some (true,id,.iter s 0),none,some (.ptr id 0)⟩
  |_=>False
 | .next x true=>bindO (st.ev x) fun p=>match p with
  | .ptr id1 0=>bindO (lkp st.heap id1) fun ob=>match ob with
   | .iter s pos=>(pos<s.size->K ⟨some (false,id1,.iter s (pos+(Utf8.decode s pos).2)),none,some (.tup [.val (.bool true),.val (.int .i64 pos),.val (.int .i32 (Utf8.decode s pos).1)])⟩) /\
    (s.size<=pos->K (.val (.tup [.val (.bool false)])))
   |_=>False
  |_=>False
 | .call c=>match c.callee with
  | .builtin .append=>appendK P st tk c K
  | .builtin _=>callV P st c fun p=>K (.val p)
  |_=>callK P st c fun p=>K (.val p)
 |op=>valK P st op fun p=>K (.val p)
def stepN0 (P:Program)(o:Oper)(st:PS)(id tk:Nat)(K:PS->Prop):Prop:=stepD P o st id tk fun d=>K (d.apply o.dst st)
def makesObj (o:Oper):Bool:=
 match o.op with
 | .alloc _=>true
 | .box _ _=>true
 | .makeSlice _ _ _=>true
 | .range _ _=>true
 |_=>false
def makesTok (o:Oper):Bool:=
 match o.op with
 | .buildSlice _ _ _=>true
 | .call c=>match c.callee with
  | .builtin .append=>true
  |_=>false
 |_=>false
end Go.Pw

end
section
namespace Go.Pw
open Go Go.RowKit
set_option linter.unusedVariables false
set_option linter.unusedSimpArgs false
section
variable {P:Program} {own:Nat->Prop} {S0:Base} {w0 w:World} {C:Cx} {U V:Nat->Prop} {st:PS} {a:Act} {N:Nat}
theorem Env.ext {C':Cx}{U' V':Nat->Prop}{st':PS}(E:Env C U V st a)(e:Ext C C' st.toks st'.toks U V U' V')(he:st'.env=st.env):Env C' U' V' st' a:=by
 intro t p h
 rw[he]at h
 obtain⟨v,h1,h2⟩:=E t p h
 exact⟨v,h1,h2.ext e⟩
structure StN (own:Nat->Prop) (S0:Base) (w0:World) (N:Nat) (U V:Nat->Prop) (st:PS) (a:Act) (w:World):Prop where
 defers:a.defers=[]
 size:a.tmps.size=N
 ex:∃C,Rel own S0 w0 C U V st w/\Env C U V st a
theorem StN.of_put {w':World}{C':Cx}{U' V':Nat->Prop}{st':PS}{d:Option Tmp}{v:Value}{p:PV}(hd:a.defers=[])(hs:a.tmps.size=N)(hf:fitsDst N d=true)
  (R:Rel own S0 w0 C' U' V' st' w') (E:Env C' U' V' st' a) (r:RepV C' st'.toks U' V' v p):StN own S0 w0 N U' V' (st'.put d p) (a.put d v) w':=
 ⟨by cases d<;>exact hd,by cases d<;>simpa [Act.put]using hs,C',R.put d p,E.put (hs▸hf) r⟩
theorem StN.of_kill {w':World}{C':Cx}{U' V':Nat->Prop}{st':PS}{d:Option Tmp}(hd:a.defers=[])(hs:a.tmps.size=N)(hf:fitsDst N d=true)
  (R:Rel own S0 w0 C' U' V' st' w') (E:Env C' U' V' st' a):StN own S0 w0 N U' V' (st'.kill d) (a.put d undef) w':=
 StN.of_put hd hs hf R E undef_rep
theorem valsOf_get:∀{ps:List (Nat×PV)}{k:Nat}{xs:List (List PV)},valsOf ps k=some xs->ps.length=xs.length/\∀(j:Nat)(e:Nat×PV)(x:List PV),ps[j]? = some e->xs[j]? = some x->e.1=k+j/\fzL e.2.cells=some x
 | [],k,xs,h=>by
  simp only[valsOf,Option.some.injEq]at h
  subst h
  exact⟨rfl,fun j e x he=>by simp at he⟩
 |(i,p)::r,k,xs,h=>by
  simp only[valsOf]at h
  split at h
  ·rename_i hi
   split at h
   ·rename_i c l hc hl
    obtain rfl:=Option.some.inj h
    obtain⟨h1,h2⟩:=valsOf_get hl
    refine⟨by simp[h1],fun j e x he hx=>?_⟩
    cases j with
    |zero=>simp at he hx; subst he hx; exact⟨by simpa using hi,hc⟩
    |succ j=>
     obtain⟨h3,h4⟩:=h2 j e x (by simpa using he) (by simpa using hx)
     exact⟨by omega,h4⟩
   ·cases h
  ·cases h
theorem rowF {S:Cells}{g cap sz:Nat}{cur:Array Value}{xs:List (List PV)}(hS:∀o,o<xs.length*sz->S g o=cur[o]?)(hc:xs.length<=cap)(hcur:xs.length*sz<=cur.size)(hsz:∀x∈xs,x.length=sz)
  (hr:∀(j i:Nat) (x:List PV) (p:PV),xs[j]? = some x->x[i]? = some p->∃u,cur[j*sz+i]? = some u/\RepF S u p):RepF S (.slice (some ⟨g,0,none⟩) xs.length cap) (.sl xs):=by
 refine .sl (sz:=sz) (fun j i=>(cur[j*sz+i]?).getD undef) rfl hc hsz (fun h0=>⟨g,0,rfl,fun j i hj hi=>?_⟩) (fun j i x p hx hp=>?_)
 ·have hlt:j*sz+i<xs.length*sz:=by
   have:(j+1)*sz<=xs.length*sz:=Nat.mul_le_mul_right _ hj
   rw[Nat.add_mul,Nat.one_mul]at this
   omega
  rw[Nat.zero_add,hS _ hlt,Array.getElem?_eq_getElem (by omega)]
  rfl
 ·obtain⟨u,h1,h2⟩:=hr j i x p hx hp
  rw[h1]
  exact h2
theorem src_sound (E:Env C U V st a)(R:Rel own S0 w0 C U V st w){sz:Nat}{y:Operand}{s:PV}{ys0 ys:List (List PV)}(hs:st.ev y=some s)(h:srcXs st sz s=some ys0)(hf:fzLL ys0=some ys)
  (hsz:∀y∈ys,y.length=sz) (h0:0<sz) (hne:ys≠[]) :
  ∃ad c,a.eval y = .slice (some ad) ys.length c/\∃news:List Value,news.length=ys.length*sz/\(∀j u,news[j]? = some u->w.cell? (ad.add j)=some u)/\(∀u∈news,u.oneCell'=true) /\
   ∀(j i:Nat) (x:List PV) (p:PV),ys[j]? = some x->x[i]? = some p->∃u,news[j*sz+i]? = some u/\RepF C.S u p:=by
 obtain⟨hl,hg⟩:=fzLL_get hf
 have hlen:0<ys.length:=List.length_pos_iff.2 hne
 have key:∀(ad:Addr) (g:Nat->Value),(∀k,k<ys.length*sz->w.cell? (ad.add k)=some (g k)/\(g k).oneCell'=true) ->
   (∀(j i:Nat) (x:List PV) (p:PV),ys0[j]? = some x->x[i]? = some p->i<sz->RepV C st.toks U V (g (j*sz+i)) p) ->
   ∃news:List Value,news.length=ys.length*sz/\(∀j u,news[j]? = some u->w.cell? (ad.add j)=some u)/\(∀u∈news,u.oneCell'=true) /\
   ∀(j i:Nat) (x:List PV) (p:PV),ys[j]? = some x->x[i]? = some p->∃u,news[j*sz+i]? = some u/\RepF C.S u p:=by
  intro ad g h1 h2
  have hget:∀k,((List.range (ys.length*sz)).map g)[k]? = if k<ys.length*sz then some (g k) else none:=fun k=>by
   by_cases hk:k<ys.length*sz<;>simp[List.getElem?_map,List.getElem?_range,hk]
  refine⟨(List.range (ys.length*sz)).map g,by simp,fun j u hu=>?_,fun u hu=>?_,fun j i x p hx hp=>?_⟩
  ·rw[hget]at hu
   split at hu
   ·obtain rfl:=Option.some.inj hu
    exact(h1 j (by assumption)).1
   ·cases hu
  ·obtain⟨k,hk,rfl⟩:=List.mem_map.1 hu
   exact(h1 k (List.mem_range.1 hk)).2
  ·have hxl:=hsz x (List.mem_of_getElem? hx)
   have hi:i<sz:=hxl▸(List.getElem?_eq_some_iff.1 hp).1
   have hj:j<ys.length:=(List.getElem?_eq_some_iff.1 hx).1
   have hx0:=List.getElem?_eq_getElem (show j<ys0.length by omega)
   obtain⟨hfl,hfg⟩:=fzL_get (hg j _ x hx0 hx)
   have hp0:=List.getElem?_eq_getElem (show i<(ys0[j]'(by omega)).length by omega)
   have hlt:j*sz+i<ys.length*sz:=by
    have:(j+1)*sz<=ys.length*sz:=Nat.mul_le_mul_right _ hj
    rw[Nat.add_mul,Nat.one_mul]at this
    omega
   exact⟨_,by rw[hget,if_pos hlt],fz_rep (C:=C) (hfg i _ p hp0 hp) (h2 j i _ _ hx0 hp0 hi)⟩
 have frozen:∀zs:List (List PV),ys0=zs->RepF C.S (a.eval y) (.sl zs)->∃ad c,a.eval y = .slice (some ad) ys.length c/\∃news:List Value,news.length=ys.length*sz/\(∀j u,news[j]? = some u->w.cell? (ad.add j)=some u)/\(∀u∈news,u.oneCell'=true) /\
   ∀(j i:Nat) (x:List PV) (p:PV),ys[j]? = some x->x[i]? = some p->∃u,news[j*sz+i]? = some u/\RepF C.S u p:=by
  intro zs e hr
  subst e
  generalize a.eval y=v at hr
  cases hr with
  | @sl A n c sz' _ f hn hc hsz' hA hrr=>
   obtain⟨b,o,rfl,hS⟩:=hA (by omega)
   have h00:=List.getElem?_eq_getElem (show 0<ys0.length by omega)
   have h01:=List.getElem?_eq_getElem (show 0<ys.length by omega)
   have e1:=(fzL_get (hg 0 _ _ h00 h01)).1
   have e2:=hsz' _ (List.mem_of_getElem? h00)
   have e3:=hsz _ (List.mem_of_getElem? h01)
   have hszz:sz'=sz:=by omega
   subst hszz
   refine⟨⟨b,o,none⟩,c,by rw[<-hn,hl],key ⟨b,o,none⟩ (fun k=>f (k/sz') (k%sz')) (fun k hk=>?_) (fun j i x p hx hp hi=>?_)⟩
   ·have h1:k/sz'<n:=by
     rw[<-hn,hl]
     exact Nat.div_lt_of_lt_mul (by rw[Nat.mul_comm]; exact hk)
    have h2:=hS (k/sz') (k%sz') h1 (Nat.mod_lt _ h0)
    have h3:k/sz'*sz'+k%sz'=k:=Nat.div_add_mod' k sz'
    rw[h3]at h2
    have h4:=R.stable _ _ _ h2
    refine⟨by rw[Addr.add_lit]; exact h4,?_⟩
    have hx:=List.getElem?_eq_getElem (show k/sz'<ys0.length by omega)
    have hxl:=hsz' _ (List.mem_of_getElem? hx)
    have hp:=List.getElem?_eq_getElem (show k%sz'<(ys0[k/sz']'(by omega)).length by rw[hxl]; exact Nat.mod_lt _ h0)
    exact(hrr _ _ _ _ hx hp).one
   ·have e4:(j*sz'+i)/sz'=j:=by
     rw[Nat.mul_comm,Nat.mul_add_div h0,Nat.div_eq_of_lt hi,Nat.add_zero]
    have e5:(j*sz'+i)%sz'=i:=by
     rw[Nat.mul_comm,Nat.mul_add_mod,Nat.mod_eq_of_lt hi]
    simp only[e4,e5]
    exact .frz (hrr j i x p hx hp)
 unfold srcXs at h
 split at h
 ·obtain rfl:=Option.some.inj h
  exact frozen _ rfl (rep_sl (.inl (ev_rep E hs)))
 ·obtain rfl:=Option.some.inj h
  exact frozen _ rfl (rep_sl (.inr ⟨_,ev_rep E hs⟩))
 ·obtain rfl:=Option.some.inj h
  simp at hl
  omega
 ·rename_i id lo n cap
  split at h
  ·rename_i T cs ho
   split at h
   ·rename_i hfit
    obtain rfl:=Option.some.inj h
    obtain⟨ev,hid,hnc⟩:=rep_ms (ev_rep E hs)
    obtain⟨vs,hb,hvs,hrep⟩:=R.box id T cs ho
    have hn:ys.length=n:=by rw[<-hl]; simp[chunks]
    refine⟨⟨C.ρ id,lo,none⟩,cap,by rw[ev,hn],key _ (fun k=>(vs[lo+k]?).getD undef) (fun k hk=>?_) (fun j i x p hx hp hi=>?_)⟩
    ·have hlt:lo+k<vs.size:=by rw[hvs]; rw[hn]at hk; omega
     have h1:vs[lo+k]? = some vs[lo+k]:=Array.getElem?_eq_getElem hlt
     have h2:=List.getElem?_eq_getElem (show lo+k<cs.length by omega)
     rw[Addr.add_lit,cell_of_row w (C.ρ id) (lo+k) vs T (0,0) hb,h1]
     exact⟨rfl,(hrep _ _ _ h1 h2).1⟩
    ·have hj:j<n:=by
      have:=(List.getElem?_eq_some_iff.1 hx).1
      simpa [chunks]using this
     have hx':x=(cs.drop (lo+j*sz)).take sz:=by
      simp[chunks,List.getElem?_map,List.getElem?_range,hj]at hx
      exact hx.symm
     subst hx'
     rw[List.getElem?_take,if_pos hi,List.getElem?_drop,Nat.add_assoc]at hp
     have hlt:lo+(j*sz+i)<vs.size:=by rw[hvs]; exact(List.getElem?_eq_some_iff.1 hp).1
     have h1:vs[lo+(j*sz+i)]? = some vs[lo+(j*sz+i)]:=Array.getElem?_eq_getElem hlt
     simp only[h1,Option.getD_some]
     exact(hrep _ _ _ h1 hp).2
   ·cases h
  ·cases h
 ·cases h
theorem src_len {sz:Nat}{y:Operand}{s:PV}{ys0:List (List PV)}(E:Env C U V st a)(hs:st.ev y=some s)(h:srcXs st sz s=some ys0):∃B c,a.eval y = .slice B ys0.length c:=by
 unfold srcXs at h
 split at h
 ·obtain rfl:=Option.some.inj h
  obtain⟨A,c,e,_⟩:=sl_slice (rep_sl (.inl (ev_rep E hs)))
  exact⟨A,c,e⟩
 ·obtain rfl:=Option.some.inj h
  obtain⟨A,c,e,_⟩:=sl_slice (rep_sl (.inr ⟨_,ev_rep E hs⟩))
  exact⟨A,c,e⟩
 ·obtain rfl:=Option.some.inj h
  exact⟨none,0,(rep_val (ev_rep E hs)).1⟩
 ·rename_i id lo n cap
  split at h
  ·split at h
   ·obtain rfl:=Option.some.inj h
    obtain⟨ev,_⟩:=rep_ms (ev_rep E hs)
    refine⟨some ⟨C.ρ id,lo,none⟩,cap,ev.trans ?_⟩
    simp only[chunks,List.length_map,List.length_range]
   ·cases h
  ·cases h
 ·cases h
theorem run_append_empty {t ty e:TypeId}{sz:Nat}(hu:P.underlying t=some (.slice e))(hn:sizeOf? P e=some sz)(A B:Option Addr)(n c c':Nat)(hc:n<=c)(w:World) :
  (Builtin.append_ #[t,t] ty #[.slice A n c,.slice B 0 c']).run P w = .ok (.slice A n c) w:=by
 cases A<;>cases B<;>simp[Builtin.append_,run_underlying hu,run_sizeOf? hn,Builtin.lenOf,hc,Builtin.firstCells,loadCells,loadCellsFrom,storeCells]
end
end Go.Pw

end
section
namespace Go.Pw
open Go Go.RowKit
set_option linter.unusedVariables false
set_option linter.unusedSimpArgs false
section
variable {P:Program} {own:Nat->Prop} {S0:Base} {w0 w:World} {C:Cx} {U V:Nat->Prop} {st:PS} {a:Act} {N:Nat}
theorem info_of {e:TypeId}{sz by_:Nat}{z:Value}(h1:sizeOf? P e=some sz)(h2:bytesOf? P e=some by_)(h3:zeroOf? P e=some z):∃i,P.info? e=some i/\i.size=sz/\i.bytes=by_/\i.zero=some z:=by
 unfold sizeOf? at h1
 obtain⟨i,hi,rfl⟩:=Option.map_eq_some_iff.1 h1
 unfold bytesOf? at h2
 unfold zeroOf? at h3
 rw[hi]at h2 h3
 exact⟨i,hi,rfl,by simpa using h2,by simpa using h3⟩
theorem rowsF {S:Cells}{sz:Nat}{xs ys:List (List PV)}{olds news rest:List Value}{cur:Array Value}(hcur:cur.toList=olds++news++rest)(ho:olds.length=xs.length*sz)(hn:news.length=ys.length*sz)
  (hxs:∀x∈xs,x.length=sz) (hys:∀x∈ys,x.length=sz)
  (hxr:∀(j i:Nat) (x:List PV) (p:PV),xs[j]? = some x->x[i]? = some p->∃u,olds[j*sz+i]? = some u/\RepF S u p)
  (hyr:∀(j i:Nat) (x:List PV) (p:PV),ys[j]? = some x->x[i]? = some p->∃u,news[j*sz+i]? = some u/\RepF S u p) :
  (∀x∈xs++ys,x.length=sz)/\∀(j i:Nat) (x:List PV) (p:PV),(xs++ys)[j]? = some x->x[i]? = some p->∃u,cur[j*sz+i]? = some u/\RepF S u p:=by
 refine⟨fun x hx=>?_,fun j i x p hx hp=>?_⟩
 ·rcases List.mem_append.1 hx with h|h
  ·exact hxs x h
  ·exact hys x h
 ·have hcg:∀k:Nat,cur[k]? = (olds++news++rest)[k]? :=fun k=>by rw[<-hcur]; simp
  rw[hcg]
  by_cases hj:j<xs.length
  ·rw[List.getElem?_append_left hj]at hx
   obtain⟨u,h1,h2⟩:=hxr j i x p hx hp
   have hlt:=(List.getElem?_eq_some_iff.1 h1).1
   exact⟨u,by rw[List.append_assoc,List.getElem?_append_left hlt]; exact h1,h2⟩
  ·rw[List.getElem?_append_right (by omega)]at hx
   obtain⟨u,h1,h2⟩:=hyr _ i x p hx hp
   have hlt:=(List.getElem?_eq_some_iff.1 h1).1
   refine⟨u,?_,h2⟩
   have e:j*sz+i=olds.length+((j-xs.length)*sz+i):=by
    rw[ho]
    have:j*sz=xs.length*sz+(j-xs.length)*sz:=by rw[<-Nat.add_mul]; congr 1; omega
    omega
   rw[e,List.append_assoc,List.getElem?_append_right (by omega),Nat.add_sub_cancel_left,List.getElem?_append_left hlt]
   exact h1
theorem Rel.wider (R:Rel own S0 w0 C U V st w){V':Nat->Prop}(hVV:∀i,V i->V' i):Rel own S0 w0 C U V' st w:=by
 have X:Ext C C st.toks st.toks U V U V':=⟨SLe.refl _,fun _ _=>rfl,fun k t _ h=>⟨t,h,Nat.le_refl _,rfl,fun _=>rfl⟩,fun _ h=>h,hVV⟩
 refine⟨R.frame,R.stable,fun id T cs h=>?_,R.iter,R.hown,R.hinj,fun k t h=>?_,R.tbox,R.tinj,R.snew,R.sold,R.base.trans X,R.glob⟩
 ·obtain⟨vs,h1,h2,h3⟩:=R.box id T cs h
  exact⟨vs,h1,h2,fun i v p hv hp=>⟨(h3 i v p hv hp).1,(h3 i v p hv hp).2.ext X⟩⟩
 ·obtain⟨h1,h2⟩:=R.tok k t h
  exact⟨hVV _ h1,h2⟩
theorem append_core (E:Env C U V st a)(R:Rel own S0 w0 C U V st w){o:Oper}{x:Operand}{src:Value}{t t' ty e:TypeId}{K:Delta->Prop}{tk0:Nat}(hV:¬V tk0){V':Nat->Prop}(hVV:∀i,V i->V' i)(hV':V' tk0)
  (hrun:∀v w',(Builtin.append_ #[t,t'] ty #[a.eval x,src]).run P w = .ok v w'->(execOp a.eval o).run P w = .ok (.value v) w') {sz by_:Nat} {z:Value} {i:TypeInfo}
  (hzs:z.cells.size=sz) (h0:0<sz) (hi1:i.size=sz) (hi2:i.bytes=by_) {d:PV} (hd:st.ev x=some d) {ys:List (List PV)} (hpos:0<ys.length) (hyl:∀y∈ys,y.length=sz)
  {news:List Value} (hnl:news.length=ys.length*sz) (hn1:∀u∈news,u.oneCell'=true)
  (hnr:∀(j i:Nat) (x:List PV) (p:PV),ys[j]? = some x->x[i]? = some p->∃u,news[j*sz+i]? = some u/\RepF C.S u p)
  (hnil:((ys.length:Nat):Int)<=9223372036854775807->ys.length*i.bytes<=281474976710656->(Builtin.append_ #[t,t'] ty #[.slice none 0 0,src]).run P w =
   .ok (.slice (some ⟨w.heap.size,0,none⟩) ys.length (grownCap w ys.length 0 e)) (w.drew.alloc (.cells (news.toArray++Builtin.zeroCells z.cells (grownCap w ys.length 0 e-ys.length)) e)))
  (hroomR:∀(g sLen sCap:Nat) (cur:Array Value),w.heap[g]? = some (.cells cur e (0,0))->sLen+ys.length<=sCap->sLen*i.size+news.length<=cur.size->(Builtin.append_ #[t,t'] ty #[.slice (some ⟨g,0,none⟩) sLen sCap,src]).run P w =
   .ok (.slice (some ⟨g,0,none⟩) (sLen+ys.length) sCap) (w.setRow g (cur.toList.take (sLen*i.size)++news++cur.toList.drop (sLen*i.size+news.length)).toArray))
  (hgrowR:∀(b:Addr) (sLen sCap:Nat) (olds:List Value),olds.length=sLen*i.size->(∀j v,olds[j]? = some v->w.cell? (b.add j)=some v)->sCap<sLen+ys.length->((sLen+ys.length:Nat):Int)<=9223372036854775807->Builtin.nextslicecap (sLen+ys.length) sCap*i.bytes<=281474976710656 ->
   (Builtin.append_ #[t,t'] ty #[.slice (some b) sLen sCap,src]).run P w = .ok (.slice (some ⟨w.heap.size,0,none⟩) (sLen+ys.length) (grownCap w (sLen+ys.length) sCap e))
    (w.drew.alloc (.cells (olds.toArray++news.toArray++Builtin.zeroCells z.cells (grownCap w (sLen+ys.length) sCap e-(sLen+ys.length))) e)))
  (h:appTail st tk0 e sz by_ d ys K) :
  ∃v p st' w' C',(execOp a.eval o).run P w = .ok (.value v) w'/\Rel own S0 w0 C' U V' st' w'/\Ext C C' st.toks st'.toks U V U V'/\st'.env=st.env/\RepV C' st'.toks U V' v p/\∃d,K d/\d.apply o.dst st=st'.put o.dst p:=by
 unfold appTail at h
 split at h
 ·simp at hpos
 rename_i y0 r
 generalize hysd:y0::r=ys at *
 split at h
 ·
  obtain⟨hb,hm,hk⟩:=h
  have ex:a.eval x = .slice none 0 0:=(rep_val (ev_rep E hd)).1
  have hrun1:=hnil (by omega) (by rw[hi2]; omega)
  have hcapge:ys.length<=grownCap w ys.length 0 e:=grownCap_ge w ys.length 0 e
  have hcapm:grownCap w ys.length 0 e<=maxLen:=grownCap_le_maxLen w ys.length 0 e (by simpa [maxLen]using hm)
  let cur:Array Value:=news.toArray++Builtin.zeroCells z.cells (grownCap w ys.length 0 e-ys.length)
  have hcs:cur.size=grownCap w ys.length 0 e*sz:=by
   simp only[cur,Array.size_append,List.size_toArray,size_zeroCells,hzs,hnl,<-Nat.add_mul]
   congr 1
   omega
  obtain⟨R',X'⟩:=R.row (w':=w.drew.alloc (.cells cur e)) (k:=tk0) (g:=w.heap.size) (cap:=grownCap w ys.length 0 e) (n:=ys.length) (e:=e) (sz:=sz) (cur:=cur)
   ⟨rfl,rfl,rfl,by simp,fun b hb _=>by show(w.heap.push _)[b]? = _; rw[Array.getElem?_push,if_neg (by omega)]⟩ (heap_alloc_at (w:=w.drew) _) hcs hcapge hcapm
   (.inl ⟨by cases hl:lkp st.toks tk0 with|none=>rfl|some t=>exact absurd (R.tok _ _ hl).1 hV,hV,Nat.le_refl _⟩) hVV hV' st.nx st.nt
  refine⟨_,_,_,_,_,hrun _ _ (by rw[ex]; exact hrun1),R',X',rfl,?_,_,hk,rfl⟩
  have hS:∀o,o<ys.length*sz->(C.keep tk0 w.heap.size (grownCap w ys.length 0 e) (ys.length*sz) cur).S w.heap.size o=cur[o]? :=fun o ho=>by
   show(if w.heap.size=w.heap.size/\o<ys.length*sz then cur[o]? else C.S w.heap.size o)=_
   rw[if_pos ⟨rfl,ho⟩]
  have hrows:=rowsF (S:=(C.keep tk0 w.heap.size (grownCap w ys.length 0 e) (ys.length*sz) cur).S) (sz:=sz) (xs:=[]) (ys:=ys) (olds:=[]) (news:=news) (cur:=cur)
   (rest:=(Builtin.zeroCells z.cells (grownCap w ys.length 0 e-ys.length)).toList) (by simp[cur]) (by simp) hnl (by simp) hyl (by simp)
   (fun j i x p hx hp=>by obtain⟨u,h1,h2⟩:=hnr j i x p hx hp; exact⟨u,h1,h2.mono X'.S⟩)
  simp only[List.nil_append]at hrows
  refine .row (rowF (sz:=sz) (g:=w.heap.size) (cur:=cur) hS hcapge (by rw[hcs]; exact Nat.mul_le_mul_right _ hcapge) hrows.1 hrows.2) hV' (fun t ht=>?_)
  rw[lkp_upd,if_pos rfl]at ht
  obtain rfl:=Option.some.inj ht
  exact⟨Nat.le_refl _,hyl,fun _=>by simp[Cx.keep]⟩
 ·
  rename_i k xs
  replace h:=bindO_elim h
  obtain⟨tk,htk,hn,he,hts,hb,hm,hk⟩:=h
  obtain⟨hknt,hown,⟨vs,hvs,hvsz⟩,hncap,hcapm,hS7⟩:=R.tok k tk htk
  have hrep:=ev_rep E hd
  have hxf:RepF C.S (a.eval x) (.sl xs):=rep_sl (.inr ⟨_,hrep⟩)
  have hval:a.eval x = .slice (some ⟨(C.τ k).1,0,none⟩) tk.n (C.τ k).2:=by
   generalize a.eval x=v at hrep
   cases hrep with
   |frz h=>cases h
   |row h1 h2 h3=>exact(h3 tk htk).2.2 hn.symm
  have hxl:∀x∈xs,x.length=tk.sz:=by
   generalize a.eval x=v at hrep
   cases hrep with
   |frz h=>cases h
   |row h1 h2 h3=>exact(h3 tk htk).2.1
  subst he hts
  have hol:(vs.toList.take (xs.length*tk.sz)).length=xs.length*tk.sz:=by
   have hvl:vs.toList.length=(C.τ k).2*tk.sz:=by simp[hvsz]
   rw[List.length_take,hvl]
   exact Nat.min_eq_left (Nat.mul_le_mul_right _ (by omega))
  have hor:∀(j i:Nat) (x:List PV) (p:PV),xs[j]? = some x->x[i]? = some p->∃u,(vs.toList.take (xs.length*tk.sz))[j*tk.sz+i]? = some u/\RepF C.S u p:=by
   intro j i x' p hx' hp
   rw[hval]at hxf
   generalize hvv:Value.slice (some ⟨(C.τ k).1,0,none⟩) tk.n (C.τ k).2=v at hxf
   cases hxf with
   | @sl A n cc sz' _ f hn' hcc hsz' hA hrr=>
    injection hvv with g1 g2 g3
    subst g1
    have hj:j<xs.length:=(List.getElem?_eq_some_iff.1 hx').1
    obtain⟨b,o',e3,hS⟩:=hA (by omega)
    injection e3 with e3
    injection e3 with e3 e4
    subst e3 e4
    have e5:sz'=tk.sz:=by rw[<-hxl _ (List.mem_of_getElem? hx')]; exact(hsz' _ (List.mem_of_getElem? hx')).symm
    subst e5
    have hi':i<tk.sz:=by rw[<-hxl _ (List.mem_of_getElem? hx')]; exact(List.getElem?_eq_some_iff.1 hp).1
    have h1:=R.stable _ _ _ (hS j i (by omega) hi')
    rw[Nat.zero_add,cell_of_row w _ _ vs tk.e (0,0) hvs]at h1
    have hlt:j*tk.sz+i<xs.length*tk.sz:=by
     have:(j+1)*tk.sz<=xs.length*tk.sz:=Nat.mul_le_mul_right _ hj
     rw[Nat.add_mul,Nat.one_mul]at this
     omega
    exact⟨_,by rw[List.getElem?_take,if_pos hlt]; simpa using h1,hrr j i x' p hx' hp⟩
  have hlen:(xs++ys).length=xs.length+ys.length:=List.length_append
  have fin:∀(w':World) (g cap:Nat) (cur:Array Value) (rest:List Value),
    (w'.os=w.os/\w'.tape=w.tape/\w'.output=w.output/\w.heap.size<=w'.heap.size/\∀b,b<w.heap.size->b≠g->w'.heap[b]? = w.heap[b]?) ->
    w'.heap[g]? = some (.cells cur tk.e (0,0))->cur.size=cap*tk.sz->xs.length+ys.length<=cap->cap<=maxLen ->
    ((g=(C.τ k).1/\cap=(C.τ k).2/\∀o v,C.S g o=some v->cur[o]? = some v)∨w.heap.size<=g) ->
    cur.toList=vs.toList.take (xs.length*tk.sz)++news++rest ->
    (Builtin.append_ #[t,t'] ty #[a.eval x,src]).run P w = .ok (.slice (some ⟨g,0,none⟩) (xs.length+ys.length) cap) w' ->
    ∃v p st' w' C',(execOp a.eval o).run P w = .ok (.value v) w'/\Rel own S0 w0 C' U V' st' w'/\Ext C C' st.toks st'.toks U V U V'/\st'.env=st.env/\RepV C' st'.toks U V' v p/\∃d,K d/\d.apply o.dst st=st'.put o.dst p:=by
   intro w' g cap cur rest hfr hg hcs hncap' hcapm' hcase hcl hrun1
   obtain⟨R',X'⟩:=R.row (k:=k) (n:=xs.length+ys.length) hfr hg hcs hncap' hcapm' (.inr ⟨tk,htk,by omega,rfl,hcase⟩) hVV (hVV _ hknt) st.nx st.nt
   refine⟨_,_,_,_,_,hrun _ _ hrun1,R',X',rfl,?_,_,hk,rfl⟩
   have hrows:=rowsF (S:=(C.keep k g cap ((xs.length+ys.length)*tk.sz) cur).S) (sz:=tk.sz) (xs:=xs) (ys:=ys) (cur:=cur) hcl hol hnl hxl hyl
    (fun j i x p hx hp=>by obtain⟨u,h1,h2⟩:=hor j i x p hx hp; exact⟨u,h1,h2.mono X'.S⟩)
    (fun j i x p hx hp=>by obtain⟨u,h1,h2⟩:=hnr j i x p hx hp; exact⟨u,h1,h2.mono X'.S⟩)
   have hrF:=rowF (S:=(C.keep k g cap ((xs.length+ys.length)*tk.sz) cur).S) (sz:=tk.sz) (g:=g) (cur:=cur) (xs:=xs++ys) (fun o ho=>by
    rw[hlen]at ho
    show(if g=g/\o<(xs.length+ys.length)*tk.sz then cur[o]? else C.S g o)=_
    rw[if_pos ⟨rfl,ho⟩]) (by rw[hlen]; exact hncap') (by rw[hcs,hlen]; exact Nat.mul_le_mul_right _ hncap') hrows.1 hrows.2
   rw[hlen]at hrF
   refine .row hrF (hVV _ hknt) (fun t ht=>?_)
   rw[lkp_upd,if_pos rfl]at ht
   obtain rfl:=Option.some.inj ht
   exact⟨by rw[hlen]; exact Nat.le_refl _,hrows.1,fun _=>by simp[Cx.keep]⟩
  have hpo:∀b,b<w.heap.size->(w.heap.push (Obj.cells #[] 0))[b]? = w.heap[b]? :=fun b hb=>by rw[Array.getElem?_push,if_neg (by omega)]
  by_cases hroom:xs.length+ys.length<=(C.τ k).2
  ·
   have hfit:xs.length*i.size+news.length<=vs.size:=by rw[hnl,hvsz,hi1,<-Nat.add_mul]; exact Nat.mul_le_mul_right _ hroom
   have hrun1:=hroomR (C.τ k).1 xs.length (C.τ k).2 vs hvs hroom hfit
   rw[hi1]at hrun1
   have hcl:((vs.toList.take (xs.length*tk.sz)++news++vs.toList.drop (xs.length*tk.sz+news.length)).toArray).toList=vs.toList.take (xs.length*tk.sz)++news++vs.toList.drop (xs.length*tk.sz+news.length):=by simp
   refine fin (w.setRow (C.τ k).1 (vs.toList.take (xs.length*tk.sz)++news++vs.toList.drop (xs.length*tk.sz+news.length)).toArray) (C.τ k).1 (C.τ k).2 _ _ ⟨rfl,rfl,rfl,by simp[World.setRow],fun b _ hb=>setRow_other w _ b _ hb⟩ (setRow_heap w _ vs _ _ _ hvs) ?_ hroom hcapm (.inl ⟨rfl,rfl,fun o' v hv=>?_⟩) hcl ?_
   ·rw[hi1]at hfit
    simp only[List.size_toArray,List.length_append,List.length_take,List.length_drop,Array.length_toList]
    omega
   ·have h1:=R.stable _ _ _ hv
    rw[cell_of_row w _ _ vs tk.e (0,0) hvs]at h1
    have hlt:o'<xs.length*tk.sz:=by
     apply Classical.byContradiction
     intro hge
     rw[hS7 o' (by rw[hn]; omega)]at hv
     cases hv
    have:((vs.toList.take (xs.length*tk.sz)++news++vs.toList.drop (xs.length*tk.sz+news.length)).toArray)[o']? = (vs.toList.take (xs.length*tk.sz)++news++vs.toList.drop (xs.length*tk.sz+news.length))[o']? :=by simp
    rw[this,List.append_assoc,List.getElem?_append_left (by rw[hol]; exact hlt),List.getElem?_take,if_pos hlt]
    simpa using h1
   ·rw[hval,hn]
    exact hrun1
  ·
   have holdc:∀j v,(vs.toList.take (xs.length*tk.sz))[j]? = some v->w.cell? ((⟨(C.τ k).1,0,none⟩:Addr).add j)=some v:=by
    intro j v hj
    rw[Addr.add_lit,Nat.zero_add,cell_of_row w _ _ vs tk.e (0,0) hvs]
    rw[List.getElem?_take]at hj
    split at hj
    ·simpa using hj
    ·cases hj
   have hrun1:=hgrowR ⟨(C.τ k).1,0,none⟩ xs.length (C.τ k).2 (vs.toList.take (xs.length*tk.sz)) (by rw[hi1]; exact hol) holdc
    (by omega) (by omega) (growslice_fits (by omega) (by rw[hi2]; exact hb))
   have hcapge:=grownCap_ge w (xs.length+ys.length) (C.τ k).2 tk.e
   have hcapm2:grownCap w (xs.length+ys.length) (C.τ k).2 tk.e<=maxLen:=grownCap_le_maxLen w _ _ _ (by simpa [maxLen]using hm)
   refine fin (w.drew.alloc (.cells ((vs.toList.take (xs.length*tk.sz)).toArray++news.toArray++Builtin.zeroCells z.cells (grownCap w (xs.length+ys.length) (C.τ k).2 tk.e-(xs.length+ys.length))) tk.e)) w.heap.size _ _ (Builtin.zeroCells z.cells (grownCap w (xs.length+ys.length) (C.τ k).2 tk.e-(xs.length+ys.length))).toList ⟨rfl,rfl,rfl,by simp,fun b hb _=>by show(w.heap.push _)[b]? = _; rw[Array.getElem?_push,if_neg (by omega)]⟩
    (heap_alloc_at (w:=w.drew) _) ?_ hcapge hcapm2 (.inr (Nat.le_refl _)) (by simp) ?_
   ·simp only[Array.size_append,List.size_toArray,size_zeroCells,hzs,hnl,hol,<-Nat.add_mul]
    congr 1
    omega
   ·rw[hval,hn]
    exact hrun1
 ·
  rename_i id lo n cap
  obtain⟨rfl,h⟩:=h
  replace h:=bindO_elim h
  obtain⟨xs0,hxs0,h⟩:=h
  replace h:=bindO_elim h
  obtain⟨xs,hxs,hxl,hb,hm,hk⟩:=h
  obtain⟨ev,_,_⟩:=rep_ms (ev_rep E hd)
  have hlx:=(fzLL_get hxs).1
  obtain⟨B,c',ex'⟩:=src_len E hd hxs0
  rw[ev]at ex'
  have holds:∃b,∃olds:List Value,a.eval x = .slice (some b) xs.length xs.length/\olds.length=xs.length*sz/\(∀j u,olds[j]? = some u->w.cell? (b.add j)=some u) /\
    ∀(j i:Nat) (x:List PV) (p:PV),xs[j]? = some x->x[i]? = some p->∃u,olds[j*sz+i]? = some u/\RepF C.S u p:=by
   injection ex' with _ en _
   by_cases hne:xs=[]
   ·refine⟨⟨C.ρ id,lo,none⟩,[],?_,by simp[hne],fun j u hu=>by simp at hu,fun j i x p hx=>by simp[hne]at hx⟩
    rw[ev,en,<-hlx]
   ·obtain⟨b,c1,e1,olds,g1,g2,_,g4⟩:=src_sound E R hd hxs0 hxs hxl h0 hne
    refine⟨b,olds,?_,g1,g2,g4⟩
    have e2:=e1
    rw[ev]at e2
    injection e2 with _ e3 e4
    rw[e1,<-e4,e3]
  obtain⟨b,olds,ex,hol,holdc,hor⟩:=holds
  have hrun1:=hgrowR b xs.length xs.length olds (by rw[hi1]; exact hol) holdc
   (by omega) (by omega) (growslice_fits (by omega) (by rw[hi2]; exact hb))
  have hcapge:xs.length+ys.length<=grownCap w (xs.length+ys.length) xs.length e:=grownCap_ge w (xs.length+ys.length) xs.length e
  have hcapm:grownCap w (xs.length+ys.length) xs.length e<=maxLen:=grownCap_le_maxLen w _ _ _ (by simpa [maxLen]using hm)
  let cur:Array Value:=olds.toArray++news.toArray++Builtin.zeroCells z.cells (grownCap w (xs.length+ys.length) xs.length e-(xs.length+ys.length))
  have hcs:cur.size=grownCap w (xs.length+ys.length) xs.length e*sz:=by
   simp only[cur,Array.size_append,List.size_toArray,size_zeroCells,hzs,hnl,hol,<-Nat.add_mul]
   congr 1
   omega
  obtain⟨R',X'⟩:=R.row (w':=w.drew.alloc (.cells cur e)) (k:=tk0) (g:=w.heap.size) (cap:=grownCap w (xs.length+ys.length) xs.length e) (n:=xs.length+ys.length) (e:=e) (sz:=sz) (cur:=cur)
   ⟨rfl,rfl,rfl,by simp,fun b hb _=>by show(w.heap.push _)[b]? = _; rw[Array.getElem?_push,if_neg (by omega)]⟩ (heap_alloc_at (w:=w.drew) _) hcs hcapge hcapm
   (.inl ⟨by cases hl:lkp st.toks tk0 with|none=>rfl|some t=>exact absurd (R.tok _ _ hl).1 hV,hV,Nat.le_refl _⟩) hVV hV' st.nx st.nt
  refine⟨_,_,_,_,_,hrun _ _ (by rw[ex]; exact hrun1),R',X',rfl,?_,_,hk,rfl⟩
  have hlen:(xs++ys).length=xs.length+ys.length:=List.length_append
  have hrows:=rowsF (S:=(C.keep tk0 w.heap.size (grownCap w (xs.length+ys.length) xs.length e) ((xs.length+ys.length)*sz) cur).S) (sz:=sz) (xs:=xs) (ys:=ys) (olds:=olds) (news:=news) (cur:=cur)
   (rest:=(Builtin.zeroCells z.cells (grownCap w (xs.length+ys.length) xs.length e-(xs.length+ys.length))).toList) (by simp[cur]) hol hnl hxl hyl
   (fun j i x p hx hp=>by obtain⟨u,h1,h2⟩:=hor j i x p hx hp; exact⟨u,h1,h2.mono X'.S⟩)
   (fun j i x p hx hp=>by obtain⟨u,h1,h2⟩:=hnr j i x p hx hp; exact⟨u,h1,h2.mono X'.S⟩)
  have hrF:=rowF (S:=(C.keep tk0 w.heap.size (grownCap w (xs.length+ys.length) xs.length e) ((xs.length+ys.length)*sz) cur).S) (sz:=sz) (g:=w.heap.size) (cur:=cur) (xs:=xs++ys) (fun o ho=>by
   rw[hlen]at ho
   show(if w.heap.size=w.heap.size/\o<(xs.length+ys.length)*sz then cur[o]? else C.S w.heap.size o)=_
   rw[if_pos ⟨rfl,ho⟩]) (by rw[hlen]; exact hcapge) (by rw[hcs,hlen]; exact Nat.mul_le_mul_right _ hcapge) hrows.1 hrows.2
  rw[hlen]at hrF
  refine .row hrF hV' (fun t ht=>?_)
  rw[lkp_upd,if_pos rfl]at ht
  obtain rfl:=Option.some.inj ht
  exact⟨by rw[hlen]; exact Nat.le_refl _,hrows.1,fun _=>by simp[Cx.keep]⟩
 ·exact h.elim
theorem run_append_emptyS {t u ty e:TypeId}{sz:Nat}(hu:P.underlying t=some (.slice e))(hu':P.underlying u=some .string)(hn:sizeOf? P e=some sz)(A:Option Addr)(n c:Nat)(s:ByteArray)(hs:s.size=0)(hc:n<=c)(w:World) :
  (Builtin.append_ #[t,u] ty #[.slice A n c,.string s]).run P w = .ok (.slice A n c) w:=by
 cases A<;>simp[Builtin.append_,run_underlying hu,run_underlying hu',run_sizeOf? hn,Builtin.lenOf,hc,hs,Builtin.firstCells,loadCells,loadCellsFrom,storeCells]
theorem append_sound (E:Env C U V st a)(R:Rel own S0 w0 C U V st w){o:Oper}{c:Call}(ho:o.op = .call c)(hc:c.callee = .builtin .append){K:Delta->Prop}{tk0:Nat}(hV:¬V tk0){V':Nat->Prop}(hVV:∀i,V i->V' i)(hV':V' tk0)(h:appendK P st tk0 c K) :
  ∃v p st' w' C',(execOp a.eval o).run P w = .ok (.value v) w'/\Rel own S0 w0 C' U V' st' w'/\Ext C C' st.toks st'.toks U V U V'/\st'.env=st.env/\RepV C' st'.toks U V' v p/\∃d,K d/\d.apply o.dst st=st'.put o.dst p:=by
 have X:Ext C C st.toks st.toks U V U V':=⟨SLe.refl _,fun _ _=>rfl,fun k t _ h=>⟨t,h,Nat.le_refl _,rfl,fun _=>rfl⟩,fun _ h=>h,hVV⟩
 have sliceV:∀{x:Operand} {d:PV},st.ev x=some d->sliceLike d=true->∃A n cc,a.eval x = .slice A n cc/\n<=cc:=by
  intro x d hd hsl
  have hr:=ev_rep E hd
  unfold sliceLike at hsl
  split at hsl
  ·exact⟨none,0,0,(rep_val hr).1,Nat.le_refl _⟩
  ·have:=rep_sl (.inl hr)
   generalize a.eval x=v at this
   cases this with|sl f hn hc hsz hA hrr=>exact⟨_,_,_,rfl,hc⟩
  ·have:=rep_sl (.inr ⟨_,hr⟩)
   generalize a.eval x=v at this
   cases this with|sl f hn hc hsz hA hrr=>exact⟨_,_,_,rfl,hc⟩
  ·obtain⟨ev,_,hle⟩:=rep_ms hr
   exact⟨_,_,_,ev,hle⟩
  ·cases hsl
 unfold appendK at h
 split at h
 ·rename_i x y t t' hx ht
  have e1:c.args = #[x,y]:=by rw[<-Array.toArray_toList (xs:=c.args),hx]
  have e2:c.argTypes = #[t,t']:=by rw[<-Array.toArray_toList (xs:=c.argTypes),ht]
  have hrun:∀v w',(Builtin.append_ #[t,t'] o.type #[a.eval x,a.eval y]).run P w = .ok v w'->(execOp a.eval o).run P w = .ok (.value v) w':=by
   intro v w' hv
   simp[execOp,ho,resolve,hc,invoke,builtin,e1,e2,hv]
  split at h
  ·rename_i e hu
   replace h:=bindO_elim h
   obtain⟨sz,hsz,h⟩:=h
   replace h:=bindO_elim h
   obtain⟨by_,hby,h⟩:=h
   replace h:=bindO_elim h
   obtain⟨z,hz,hzs,h0,h⟩:=h
   replace h:=bindO_elim h
   obtain⟨d,hd,h⟩:=h
   replace h:=bindO_elim h
   obtain⟨s,hs,h⟩:=h
   obtain⟨i,hi,hi1,hi2,hi3⟩:=info_of hsz hby hz
   split at h
   ·
    rename_i s
    obtain⟨hu',rfl,rfl,h⟩:=h
    have ey:a.eval y = .string s:=(rep_val (ev_rep E hs)).1
    have hlen:(encS s).length=s.size:=by simp[encS]
    have hcl:(Lib.strCells s).length=s.size:=Lib.strCells_length s
    by_cases hs0:s.size=0
    ·have hys:encS s=[]:=List.length_eq_zero_iff.1 (by omega)
     rw[hys]at h
     obtain⟨hsl,hk⟩:=h
     obtain⟨A,n,cc,ex,hle⟩:=sliceV hd hsl
     refine⟨a.eval x,d,st,w,C,hrun _ _ ?_,R.wider hVV,X,rfl,(ev_rep E hd).ext X,_,hk,rfl⟩
     rw[ex,ey]
     exact run_append_emptyS hu hu' hsz A n cc s hs0 hle w
    ·refine append_core E R hV hVV hV' (fun v w' hv=>hrun v w' hv) (i:=i) (news:=Lib.strCells s) hzs h0 hi1 hi2 hd (by omega) (fun q hq=>?_) (by rw[hcl,hlen,Nat.mul_one]) (Lib.strCells_oneCell s) (fun j i' q p hq hp=>?_) (fun k1 k2=>?_) (fun g sLen sCap cur hg k1 k2=>?_) (fun b sLen sCap olds k1 k2 k3 k4 k5=>?_) h
     ·obtain⟨b,_,rfl⟩:=List.mem_map.1 hq
      rfl
     ·unfold encS at hq
      rw[List.getElem?_map]at hq
      cases hb:s.data.toList[j]? with
      |none=>rw[hb]at hq; cases hq
      |some b=>
       rw[hb]at hq
       obtain rfl:=Option.some.inj hq
       cases i' with
       |zero=>
        simp at hp
        subst hp
        exact⟨_,by rw[Nat.mul_one,Nat.add_zero]; unfold Lib.strCells; rw[List.getElem?_map,hb]; rfl,.val rfl⟩
       |succ i'=>simp at hp
     ·rw[hlen]at k1 k2 ⊢
      have:=run_append_nil_string (P:=P) w t t' o.type e i _ hu hu' hi hi3 s (by omega) k1 k2
      rw[ey,this]
      congr 4
      unfold Lib.strCells
      apply Array.ext'
      simp
     ·rw[hlen]at k1 ⊢
      have:=Lib.run_append_room_string (P:=P) w t t' o.type e i hu hu' hi hi1 g sLen sCap cur hg s k1 (by rw[hi1,Nat.mul_one,hcl]at k2; exact k2)
      rw[ey,this,hi1,Nat.mul_one,hcl]
     ·rw[hlen]at k3 k4 k5 ⊢
      have:=Lib.run_append_grow_string (P:=P) w t t' o.type e i _ hu hu' hi hi3 b sLen sCap olds k1 k2 s k3 k4 k5
      rw[ey,this]
   ·obtain⟨rfl,h⟩:=h
    replace h:=bindO_elim h
    obtain⟨ys0,hys0,h⟩:=h
    replace h:=bindO_elim h
    obtain⟨ys,hys,hyl,h⟩:=h
    cases ys with
    |nil=>
     obtain⟨hsl,hk⟩:=h
     obtain⟨B,c',ey⟩:=src_len E hs hys0
     have hy0:ys0.length=0:=(fzLL_get hys).1
     rw[hy0]at ey
     obtain⟨A,n,cc,ex,hle⟩:=sliceV hd hsl
     refine⟨a.eval x,d,st,w,C,hrun _ _ ?_,R.wider hVV,X,rfl,(ev_rep E hd).ext X,_,hk,rfl⟩
     rw[ex,ey]
     exact run_append_empty hu hsz A B n cc c' hle w
    |cons y0 r=>
     obtain⟨ad,cy,ey,news,hnl,hncell,hn1,hnr⟩:=src_sound E R hs hys0 hys hyl h0 (by simp)
     refine append_core E R hV hVV hV' (fun v w' hv=>hrun v w' hv) (i:=i) (news:=news) hzs h0 hi1 hi2 hd (by simp) hyl hnl hn1 hnr (fun k1 k2=>?_) (fun g sLen sCap cur hg k1 k2=>?_) (fun b sLen sCap olds k1 k2 k3 k4 k5=>?_) h
     ·rw[ey]
      exact run_append_nil (P:=P) w t o.type e i z hu hi hi3 ad _ cy news (by rw[hi1]; exact hnl) hncell (by simp) k1 k2
     ·rw[ey]
      exact run_append_room (P:=P) w t o.type e i hu hi g sLen sCap cur hg ad _ cy news (by rw[hi1]; exact hnl) hncell hn1 k1 k2
     ·rw[ey]
      exact run_append_grow (P:=P) w t o.type e i z hu hi hi3 b sLen sCap olds k1 k2 ad _ cy news (by rw[hi1]; exact hnl) hncell k3 k4 k5
  ·exact h.elim
 ·exact h.elim
end
end Go.Pw

end
section
namespace Go.Pw
open Go Go.RowKit
set_option linter.unusedVariables false
set_option linter.unusedSimpArgs false
section
variable {P:Program} {own:Nat->Prop} {S0:Base} {w0 w:World} {C:Cx} {U V:Nat->Prop} {st:PS} {a:Act} {N:Nat}
theorem fill_rows {sz:Nat}:∀(parts:List (Nat×Value))(k:Nat)(cells:Array Value),(∀(j:Nat)(e:Nat×Value),parts[j]? = some e->e.1=k+j/\e.2.cells.size=sz)->(k+parts.length)*sz<=cells.size ->
  ∃out,Instr.fill (fun i=>some (i*sz,sz)) cells parts=some out/\out.toList=cells.toList.take (k*sz)++(parts.flatMap fun e=>e.2.cells.toList)++cells.toList.drop ((k+parts.length)*sz)
 | [],k,cells,_,h=>⟨cells,rfl,by simp⟩
 |(i,v)::r,k,cells,hp,h=>by
  obtain⟨h1,h2⟩:=hp 0 (i,v) rfl
  simp only[Nat.add_zero]at h1 h2
  subst h1
  have hle:i*sz+sz<=cells.size:=by
   have:(i+1)*sz<=(i+(r.length+1))*sz:=Nat.mul_le_mul_right _ (by omega)
   rw[Nat.add_mul,Nat.one_mul]at this
   simp only[List.length_cons]at h
   omega
  have hfold:v.cells.zipIdx.foldl (fun cs (c,j)=>cs.setIfInBounds (i*sz+j) c) cells=(v.cells.toList.zipIdx 0).foldl (fun cs (c,j)=>cs.setIfInBounds (i*sz+j) c) cells:=by
   rw[<-Array.foldl_toList]
   simp
  have hvl:v.cells.toList.length=sz:=by simpa using h2
  have hput:=fold_put v.cells.toList (i*sz) 0 cells (by rw[hvl]; omega)
  rw[Nat.add_zero,hvl]at hput
  have hsize:((v.cells.toList.zipIdx 0).foldl (fun cs (c,j)=>cs.setIfInBounds (i*sz+j) c) cells).size=cells.size:=by
   have:=congrArg List.length hput
   simp only[List.length_append,List.length_take,List.length_drop,Array.length_toList,hvl]at this
   rw[this,Nat.min_eq_left (by omega)]
   omega
  obtain⟨out,ho,hl⟩:=fill_rows r (i+1) ((v.cells.toList.zipIdx 0).foldl (fun cs (c,j)=>cs.setIfInBounds (i*sz+j) c) cells) (fun j e he=>by
   obtain⟨g1,g2⟩:=hp (j+1) e (by simpa using he)
   exact⟨by omega,g2⟩) (by rw[hsize]; simp only[List.length_cons]at h; rw[show i+1+r.length=i+(r.length+1) by omega]; exact h)
  refine⟨out,?_,?_⟩
  ·unfold Instr.fill
   simp only
   rw[if_neg (by simp only[ne_eq,h2,not_true_eq_false,decide_false,Bool.false_or,gt_iff_lt,decide_eq_true_eq]; omega),hfold]
   exact ho
  ·rw[hl,hput]
   have e1:(i+1)*sz=i*sz+sz:=by rw[Nat.add_mul,Nat.one_mul]
   have e2:(i+1+r.length)*sz=i*sz+sz+r.length*sz:=by rw[Nat.add_mul,e1]
   have e3:(i+(r.length+1))*sz=i*sz+sz+r.length*sz:=by rw[<-e2]; congr 1; omega
   have htl:(cells.toList.take (i*sz)++v.cells.toList).length=i*sz+sz:=by
    rw[List.length_append,List.length_take,Array.length_toList,hvl,Nat.min_eq_left (by omega)]
   rw[e1,e2,List.flatMap_cons,List.length_cons,e3,List.take_left' htl,List.drop_append,htl]
   rw[List.drop_eq_nil_of_le (by rw[htl]; omega)]
   simp only[List.nil_append,List.drop_drop,List.append_assoc]
   congr 4
   omega
theorem flatMap_get {α β:Type}(f:α->List β)(sz:Nat):∀(l:List α),(∀x∈l,(f x).length=sz)->(l.flatMap f).length=l.length*sz/\∀(j i:Nat)(x:α),l[j]? = some x->i<sz->(l.flatMap f)[j*sz+i]? = (f x)[i]?
 | [],_=>⟨by simp,fun j i x h=>by simp at h⟩
 |y::r,h=>by
  obtain⟨h1,h2⟩:=flatMap_get f sz r (fun x hx=>h x (by simp[hx]))
  have hy:=h y (by simp)
  refine⟨by rw[List.flatMap_cons,List.length_append,h1,hy,List.length_cons,Nat.add_mul,Nat.one_mul]; omega,fun j i x hx hi=>?_⟩
  rw[List.flatMap_cons]
  cases j with
  |zero=>
   simp at hx
   subst hx
   rw[Nat.zero_mul,Nat.zero_add,List.getElem?_append_left (by omega)]
  |succ j=>
   rw[List.getElem?_append_right (by rw[hy,Nat.add_mul,Nat.one_mul]; omega)]
   have e:(j+1)*sz+i-(f y).length=j*sz+i:=by rw[hy,Nat.add_mul,Nat.one_mul]; omega
   rw[e]
   exact h2 j i x (by simpa using hx) hi
theorem Rel.wide (R:Rel own S0 w0 C U V st w){U' V':Nat->Prop}(hUU:∀i,U i->U' i)(hVV:∀i,V i->V' i):Rel own S0 w0 C U' V' st w:=by
 have X:Ext C C st.toks st.toks U V U' V':=⟨SLe.refl _,fun _ _=>rfl,fun k t _ h=>⟨t,h,Nat.le_refl _,rfl,fun _=>rfl⟩,hUU,hVV⟩
 refine⟨R.frame,R.stable,fun id T cs h=>?_,R.iter,fun id o h=>?_,R.hinj,fun k t h=>?_,R.tbox,R.tinj,R.snew,R.sold,R.base.trans X,R.glob⟩
 ·obtain⟨vs,h1,h2,h3⟩:=R.box id T cs h
  exact⟨vs,h1,h2,fun i v p hv hp=>⟨(h3 i v p hv hp).1,(h3 i v p hv hp).2.ext X⟩⟩
 ·obtain⟨h1,h2⟩:=R.hown id o h
  exact⟨hUU _ h1,h2⟩
 ·obtain⟨h1,h2⟩:=R.tok k t h
  exact⟨hVV _ h1,h2⟩
theorem Rel.nxnt (R:Rel own S0 w0 C U V st w)(a b:Nat):Rel own S0 w0 C U V { st with nx:=a,nt:=b } w:=⟨R.frame,R.stable,R.box,R.iter,R.hown,R.hinj,R.tok,R.tbox,R.tinj,R.snew,R.sold,R.base,R.glob⟩
theorem Ext.wider {C C':Cx}{T T':List (Nat×Tok)}{U V U' V' V'':Nat->Prop}(e:Ext C C' T T' U V U' V')(h:∀i,V' i->V'' i):Ext C C' T T' U V U' V'':=⟨e.S,e.ρ,e.tok,e.nx,fun i hi=>h i (e.nt i hi)⟩
theorem Ext.wideU {C C':Cx}{T T':List (Nat×Tok)}{U V U' U'' V':Nat->Prop}(e:Ext C C' T T' U V U' V')(h:∀i,U' i->U'' i):Ext C C' T T' U V U'' V':=⟨e.S,e.ρ,e.tok,fun i hi=>h i (e.nx i hi),e.nt⟩
theorem RepL.ext {C C':Cx}{T T':List (Nat×Tok)}{U V U' V':Nat->Prop}(e:Ext C C' T T' U V U' V'){vs:List Value}{cs:List PV}(r:RepL C T U V vs cs):RepL C' T' U' V' vs cs:=
 ⟨r.1,fun i v p hv hp=>⟨(r.2 i v p hv hp).1,(r.2 i v p hv hp).2.ext e⟩⟩
theorem RepL.mkPV {T:List (Nat×Tok)}{U V:Nat->Prop}{v:Value}{p:PV}(r:RepV C T U V v p)(h:notTup p=true):RepL C T U V v.cells.toList p.cells:=
 r.cells (fun cs e=>by subst e; simp[notTup]at h)
theorem stepN_sound (E:Env C U V st a)(R:Rel own S0 w0 C U V st w)(hd:a.defers=[])(hs:a.tmps.size=N){o:Oper}(hf:fitsDst N o.dst=true){K:PS->Prop}{id tk:Nat}{U' V':Nat->Prop}(hUU:∀i,U i->U' i)(hVV:∀i,V i->V' i)
  (hid:makesObj o=true->¬U id/\U' id) (htk:makesTok o=true->¬V tk/\V' tk) (h:stepN0 P o st id tk K) {Q:Exit->Act->World->Prop} :
  Oper.wp P o a w (fun a' w'=>∃st',K st'/\StN own S0 w0 N U' V' st' a' w') Q:=by
 unfold Oper.wp
 have Xw:Ext C C st.toks st.toks U V U' V':=⟨SLe.refl _,fun _ _=>rfl,fun k t _ h=>⟨t,h,Nat.le_refl _,rfl,fun _=>rfl⟩,hUU,hVV⟩
 have Rw:Rel own S0 w0 C U' V' st w:=R.wide hUU hVV
 have val:∀(v:Value) (p:PV) (st':PS) (w':World) (C':Cx),(execOp a.eval o).run P w = .ok (.value v) w'->Rel own S0 w0 C' U' V' st' w'->Ext C C' st.toks st'.toks U V U' V'->st'.env=st.env ->
   RepV C' st'.toks U' V' v p->K (st'.put o.dst p)->o.upon P a (fun a' w'=>∃st',K st'/\StN own S0 w0 N U' V' st' a' w') Q ((execOp a.eval o).run P w):=by
  intro v p st' w' C' hr R' X' he r hk
  rw[hr,Oper.upon_value]
  exact⟨_,hk,StN.of_put hd hs hf R' (E.ext X' he) r⟩
 have pure:∀{op:Op},o.op=op->valK P st op (fun p=>K (st.put o.dst p))->o.upon P a (fun a' w'=>∃st',K st'/\StN own S0 w0 N U' V' st' a' w') Q ((execOp a.eval o).run P w):=by
  intro op ho h
  obtain⟨v,p,h1,h2,h3⟩:=valK_sound E R ho h
  exact val v p st w C h1 Rw Xw rfl (h2.ext Xw) h3
 unfold stepN0 stepD at h
 split at h
 ·
  rename_i T ho
  replace h:=bindO_elim h
  obtain⟨z,hz,hc,hk⟩:=h
  have hrl:RepL C st.toks U V z.cells.toList (constPV z).cells:=(constPV_rep hc).cells (fun cs e=>by cases z<;>simp[constPV]at e)
  obtain⟨hid1,hid2⟩:=hid (by simp[makesObj,ho])
  have R':=(R.newObj id hid1 hUU hid2 (.box T (constPV z).cells) (.cells z.cells T) (fun T' cs e=>by injection e with e1 e2; subst e1 e2; exact⟨_,rfl,hrl⟩) (fun s pos e=>by cases e) st.nx st.nt).wide (fun _ h=>h) hVV
  have X':=(R.ext_at w.heap.size id hid1 hUU).trans ((Ext.refl _ _ _ _).wider hVV)
  refine val (.pointer (some ⟨w.heap.size,0,none⟩)) _ _ _ _ ?_ R' X' rfl ?_ hk
  ·simp[execOp,ho,Instr.alloc,run_zeroOf? hz,newVar,newRow]
  ·have:RepV (C.at id w.heap.size) st.toks U' V' (.pointer (some ⟨(C.at id w.heap.size).ρ id,0,none⟩)) (.ptr id 0):= .ptr hid2
   simpa [Cx.at]using this
 ·
  rename_i T x ho
  replace h:=bindO_elim h
  obtain⟨p,hp,hnt,hk⟩:=h
  have hrl:=RepL.mkPV (ev_rep E hp) hnt
  obtain⟨hid1,hid2⟩:=hid (by simp[makesObj,ho])
  have R':=(R.newObj id hid1 hUU hid2 (.box T p.cells) (.cells (a.eval x).cells T) (fun T' cs e=>by injection e with e1 e2; subst e1 e2; exact⟨_,rfl,hrl⟩) (fun s pos e=>by cases e) st.nx st.nt).wide (fun _ h=>h) hVV
  have X':=(R.ext_at w.heap.size id hid1 hUU).trans ((Ext.refl _ _ _ _).wider hVV)
  refine val (.pointer (some ⟨w.heap.size,0,none⟩)) _ _ _ _ ?_ R' X' rfl ?_ hk
  ·simp[execOp,ho,Instr.box,newVar,newRow]
  ·have:RepV (C.at id w.heap.size) st.toks U' V' (.pointer (some ⟨(C.at id w.heap.size).ρ id,0,none⟩)) (.ptr id 0):= .ptr hid2
   simpa [Cx.at]using this
 ·
  rename_i t x y ho
  replace h:=bindO_elim h
  obtain⟨p,hp,h⟩:=h
  replace h:=bindO_elim h
  obtain⟨q,hq,h⟩:=h
  split at h
  ·rename_i id1 off
   replace h:=bindO_elim h
   obtain⟨ob,hob,h⟩:=h
   split at h
   ·rename_i T cs
    obtain⟨hsz,hnt,hfit,hk⟩:=h
    obtain⟨ev,hid0⟩:=rep_ptr (ev_rep E hp)
    obtain⟨vs,hb,hvs,hrep⟩:=R.box id1 T cs hob
    have hql:=RepL.mkPV (ev_rep E hq) hnt
    have hvl:RepL C st.toks U V vs.toList cs:=⟨by simpa using hvs,fun i v p hv hp=>hrep i v p (by simpa using hv) hp⟩
    have hlq:(a.eval y).cells.toList.length=q.cells.length:=hql.1
    have h1:∀v∈(a.eval y).cells.toList,v.oneCell'=true:=fun v hv=>by
     obtain⟨i,hi,e⟩:=List.getElem_of_mem hv
     have hv':(a.eval y).cells.toList[i]? = some v:=by rw[List.getElem?_eq_getElem hi,e]
     exact(hql.2 i v _ hv' (List.getElem?_eq_getElem (by omega))).1
    have hst:=run_storeCells_at P (C.ρ id1) off T (a.eval y).cells.toList 0 vs w hb (by rw[hlq,hvs]; omega) h1
    rw[Nat.add_zero]at hst
    have R':=R.store hob (cs':=cs.take off++q.cells++cs.drop (off+q.cells.length)) (vs':=(vs.toList.take off++(a.eval y).cells.toList++vs.toList.drop (off+(a.eval y).cells.toList.length)).toArray)
     (by rw[hlq]; simpa using((hvl.take off).app hql).app (hvl.drop _))
    have hrun:(execOp a.eval o).run P w = .ok .skip (w.setRow (C.ρ id1) (vs.toList.take off++(a.eval y).cells.toList++vs.toList.drop (off+(a.eval y).cells.toList.length)).toArray):=by
     have hne:¬((a.eval y).cells.size≠q.cells.length):=by simpa using hlq
     simp only[execOp,ho,Instr.storeAt,ev,Instr.sureAddr,storeVar,Sem.run_bind,Sem.run_pure,Result.andThen_ok,run_sizeOf? hsz,if_neg hne,hst]
    rw[hrun,Oper.upon_skip]
    exact⟨_,hk,StN.of_kill hd hs hf (R'.wide hUU hVV) (E.ext Xw rfl)⟩
   ·exact h.elim
  ·exact h.elim
 ·
  rename_i t len parts ho
  split at h
  ·rename_i e hu
   replace h:=bindO_elim h
   obtain⟨sz,hsz,h⟩:=h
   replace h:=bindO_elim h
   obtain⟨z,hz,h⟩:=h
   replace h:=bindO_elim h
   obtain⟨ps,hps,h⟩:=h
   replace h:=bindO_elim h
   obtain⟨xs,hxs,h0,hzs,hxl,hlen,hlim,hk⟩:=h
   have hev:∀(ops:List (Nat×Operand)) (ps:List (Nat×PV)),evParts st ops=some ps->ops.length=ps.length/\∀(j:Nat) (x:Nat×Operand) (y:Nat×PV),ops[j]? = some x->ps[j]? = some y->x.1=y.1/\st.ev x.2=some y.2:=by
    intro ops
    induction ops with
    |nil=>intro ps h; simp only[evParts,Option.some.injEq]at h; subst h; exact⟨rfl,fun j x y hx=>by simp at hx⟩
    |cons b r ih=>
     intro ps h
     obtain⟨i,x⟩:=b
     simp only[evParts]at h
     split at h
     ·rename_i p l hp hl
      obtain rfl:=Option.some.inj h
      obtain⟨g1,g2⟩:=ih l hl
      refine⟨by simp[g1],fun j u y hu hy=>?_⟩
      cases j with
      |zero=>simp at hu hy; subst hu hy; exact⟨rfl,hp⟩
      |succ j=>exact g2 j u y (by simpa using hu) (by simpa using hy)
     ·cases h
   obtain⟨hl1,hg1⟩:=hev _ _ hps
   obtain⟨hl2,hg2⟩:=valsOf_get hxs
   have hpl:(parts.toList.map fun x=>(x.1,a.eval x.2)).length=len:=by simp only[List.length_map]; omega
   have hpart:∀(j:Nat) (e':Nat×Value),(parts.toList.map fun x=>(x.1,a.eval x.2))[j]? = some e'->e'.1=j/\e'.2.cells.size=sz/\∃x,xs[j]? = some x/\∀(i:Nat) (p:PV),x[i]? = some p->∃u,e'.2.cells.toList[i]? = some u/\RepF C.S u p:=by
    intro j e' he
    have hj:j<parts.toList.length:=by
     have:=(List.getElem?_eq_some_iff.1 he).1
     simpa using this
    have hx1:=List.getElem?_eq_getElem hj
    have hx2:=List.getElem?_eq_getElem (show j<ps.length by omega)
    have hx3:=List.getElem?_eq_getElem (show j<xs.length by omega)
    obtain⟨g1,g2⟩:=hg1 j _ _ hx1 hx2
    obtain⟨g3,g4⟩:=hg2 j _ _ hx2 hx3
    have he':e'=((parts.toList[j]).1,a.eval (parts.toList[j]).2):=by
     rw[List.getElem?_map,hx1]at he
     exact(Option.some.inj he).symm
    subst he'
    have hnt:notTup (ps[j]).2=true:=by
     cases hq:(ps[j]).2<;>first|rfl|(rw[hq]at g4; simp[PV.cells,fzL,fz]at g4)
    have hcl:=RepL.mkPV (ev_rep E g2) hnt
    obtain⟨g5,g6⟩:=fzL_get g4
    have hxj:=hxl _ (List.mem_of_getElem? hx3)
    have hcs:(a.eval (parts.toList[j]).2).cells.toList.length=sz:=by rw[hcl.1,g5,hxj]
    refine⟨by simp only; omega,by simpa using hcs,_,hx3,fun i p hp=>?_⟩
    have hi:i<(xs[j]).length:=(List.getElem?_eq_some_iff.1 hp).1
    have h1:=List.getElem?_eq_getElem (show i<(a.eval (parts.toList[j]).2).cells.toList.length by omega)
    have h2:=List.getElem?_eq_getElem (show i<(ps[j]).2.cells.length by omega)
    exact⟨_,h1,fz_rep (C:=C) (g6 i _ p h2 hp) (hcl.2 i _ _ h1 h2).2⟩
   obtain⟨out,hfill,hout⟩:=fill_rows (sz:=sz) (parts.toList.map fun x=>(x.1,a.eval x.2)) 0 ((Array.range (len*sz)).map fun i=>(if len*sz=0 then #[] else z.cells)[i%(if len*sz=0 then #[] else z.cells).size]!)
    (fun j e' he=>⟨by have:=(hpart j e' he).1; omega,(hpart j e' he).2.1⟩) (by simp[hpl])
   have hmapL:((parts.map fun x=>(x.1,a.eval x.2)).toList)=parts.toList.map fun x=>(x.1,a.eval x.2):=by simp
   have hnlim:¬(len*sz>2^24):=by omega
   have hrun:(execOp a.eval o).run P w = .ok (.value (.slice (some ⟨w.heap.size,0,none⟩) len len)) (w.alloc (.cells out e)):=by
    by_cases hz0:len*sz=0
    ·simp only[if_pos hz0]at hfill
     simp only[execOp,ho,Instr.buildSlice,Sem.run_bind,run_underlying hu,Result.andThen_ok,run_sizeOf? hsz,if_neg hnlim,if_pos hz0,hmapL,hfill,newRow,run_newObj,Sem.run_pure]
     rfl
    ·simp only[if_neg hz0]at hfill
     simp only[execOp,ho,Instr.buildSlice,Sem.run_bind,run_underlying hu,Result.andThen_ok,run_sizeOf? hsz,if_neg hnlim,if_neg hz0,run_zeroOf? hz,hmapL,hfill,newRow,run_newObj,Sem.run_pure]
     rfl
   have hsizes:∀x∈(parts.toList.map fun x=>(x.1,a.eval x.2)),((fun e':Nat×Value=>e'.2.cells.toList) x).length=sz:=fun x hx=>by
    obtain⟨j,hj,ej⟩:=List.getElem_of_mem hx
    have:=(hpart j x (by rw[List.getElem?_eq_getElem hj,ej])).2.1
    simpa using this
   obtain⟨hfl,hfg⟩:=flatMap_get (fun e':Nat×Value=>e'.2.cells.toList) sz _ hsizes
   rw[hpl]at hfl
   have hout':out.toList=(parts.toList.map fun x=>(x.1,a.eval x.2)).flatMap (fun e':Nat×Value=>e'.2.cells.toList):=by
    rw[hout,Nat.zero_mul,Nat.zero_add,hpl,List.take_zero,List.nil_append,List.drop_eq_nil_of_le (by simp),List.append_nil]
   have hosz:out.size=len*sz:=by
    rw[<-hfl,<-hout']
    simp
   obtain⟨htk1,htk2⟩:=htk (by simp[makesTok,ho])
   obtain⟨R',X'⟩:=R.row (w':=w.alloc (.cells out e)) (k:=tk) (g:=w.heap.size) (cap:=len) (n:=len) (e:=e) (sz:=sz) (cur:=out)
    ⟨rfl,rfl,rfl,by simp,fun b hb _=>by show(w.heap.push _)[b]? = _; rw[Array.getElem?_push,if_neg (by omega)]⟩ (heap_alloc_at _) hosz (Nat.le_refl _)
    (by have:=Nat.le_mul_of_pos_right len h0; simp only[maxLen]; omega)
    (.inl ⟨by cases hl:lkp st.toks tk with|none=>rfl|some t=>exact absurd (R.tok _ _ hl).1 htk1,htk1,Nat.le_refl _⟩) hVV htk2 st.nx st.nt
   refine val _ _ _ _ _ hrun (R'.wide hUU (fun _ h=>h)) (X'.wideU hUU) rfl ?_ hk
   have hrows:=rowsF (S:=(C.keep tk w.heap.size len (len*sz) out).S) (sz:=sz) (xs:=[]) (ys:=xs) (olds:=[]) (news:=out.toList) (cur:=out) (rest:=[]) (by simp) (by simp) (by simp[hosz,hlen]) (by simp) hxl (by simp)
    (fun j i x p hx hp=>by
     have hj:j<(parts.toList.map fun x=>(x.1,a.eval x.2)).length:=by rw[hpl,<-hlen]; exact(List.getElem?_eq_some_iff.1 hx).1
     have h1:=List.getElem?_eq_getElem hj
     obtain⟨_,_,x',hx',hc⟩:=hpart j _ h1
     rw[hx]at hx'
     obtain rfl:=Option.some.inj hx'
     obtain⟨u,g1,g2⟩:=hc i p hp
     have hi:i<sz:=by rw[<-hxl x (List.mem_of_getElem? hx)]; exact(List.getElem?_eq_some_iff.1 hp).1
     refine⟨u,?_,g2.mono X'.S⟩
     rw[hout',hfg j i _ h1 hi]
     exact g1)
   simp only[List.nil_append]at hrows
   have hrF:=rowF (S:=(C.keep tk w.heap.size len (len*sz) out).S) (sz:=sz) (g:=w.heap.size) (cap:=len) (cur:=out) (xs:=xs) (fun o' ho'=>by
    rw[hlen]at ho'
    show(if w.heap.size=w.heap.size/\o'<len*sz then out[o']? else C.S w.heap.size o')=_
    rw[if_pos ⟨rfl,ho'⟩]) (by omega) (by rw[hosz,hlen]; exact Nat.le_refl _) hrows.1 hrows.2
   rw[hlen]at hrF
   refine .row hrF htk2 (fun t ht=>?_)
   rw[lkp_upd,if_pos rfl]at ht
   obtain rfl:=Option.some.inj ht
   exact⟨by rw[hlen]; exact Nat.le_refl _,hxl,fun _=>by simp[Cx.keep]⟩
  ·exact h.elim
 ·
  rename_i t l c ho
  split at h
  ·rename_i e hu
   replace h:=bindO_elim h
   obtain⟨sz,hsz,h⟩:=h
   replace h:=bindO_elim h
   obtain⟨by_,hby,h⟩:=h
   replace h:=bindO_elim h
   obtain⟨z,hz,h⟩:=h
   replace h:=bindO_elim h
   obtain⟨p,hp,h⟩:=h
   replace h:=bindO_elim h
   obtain⟨q,hq,h⟩:=h
   replace h:=intK_elim h
   obtain⟨k1,n,rfl,h⟩:=h
   replace h:=intK_elim h
   obtain⟨k2,m,rfl,hc,hzs,h0,hnm,hn0,hn1,hbytes,hk⟩:=h
   subst hnm
   obtain⟨i,hi,hi1,hi2,hi3⟩:=info_of hsz hby hz
   have el:=(rep_val (ev_rep E hp)).1
   have ec:=(rep_val (ev_rep E hq)).1
   have hw:IntKind.i64.wrap n=n:=by
    simp[IntKind.wrap,IntKind.signed,IntKind.bits]
    omega
   have hge:¬n<0:=by omega
   have hbn:¬(281474976710656<(by_:Int)*n):=by omega
   let cells:Array Value:=(Array.range (n.toNat*sz)).map fun i=>z.cells[i%z.cells.size]!
   have hrun:(execOp a.eval o).run P w = .ok (.value (.slice (some ⟨w.heap.size,0,none⟩) n.toNat n.toNat)) (w.alloc (.cells cells e)):=by
    have hti:(typeInfo e).run P w = .ok i w:=by simp[typeInfo,hi]
    by_cases hn00:n.toNat*sz=0
    ·have hcz:cells = #[]:=by simp[cells,hn00]
     simp only[execOp,ho,Instr.makeSlice,Sem.run_bind,run_underlying hu,Result.andThen_ok,el,ec,asInt,asIntOf,Sem.run_pure,hti,hw,hi2]
     simp[hge,hbn,run_sizeOf? hsz,hn00,newRow,hcz,show Array.range 0 = #[] from rfl]
    ·simp only[execOp,ho,Instr.makeSlice,Sem.run_bind,run_underlying hu,Result.andThen_ok,el,ec,asInt,asIntOf,Sem.run_pure,hti,hw,hi2]
     simp[hge,hbn,run_sizeOf? hsz,hn00,run_zeroOf? hz,newRow,cells]
   have hzl:RepL C st.toks U V z.cells.toList (constPV z).cells:=(constPV_rep hc).cells (fun cs e=>by cases z<;>simp[constPV]at e)
   have hrl:RepL C st.toks U V cells.toList ((List.range (n.toNat*sz)).map fun i=>(constPV z).cells.getD (i%sz) (.val .nilIface)):=by
    refine⟨by simp[cells],fun j v p hv hp=>?_⟩
    have hj:j<n.toNat*sz:=by
     have:=(List.getElem?_eq_some_iff.1 hp).1
     simpa using this
    have hm:j%sz<z.cells.toList.length:=by simp only[Array.length_toList,hzs]; exact Nat.mod_lt _ h0
    have h1:=List.getElem?_eq_getElem hm
    have h2:=List.getElem?_eq_getElem (show j%sz<(constPV z).cells.length by rw[<-hzl.1]; exact hm)
    have hv':v=z.cells.toList[j%sz]:=by
     simp[cells,hj,hzs]at hv
     rw[<-hv]
     simp[Array.getElem!_eq_getD,Array.getD,show j%sz<z.cells.size by simpa using hm]
    have hp':p=(constPV z).cells[j%sz]'(by rw[<-hzl.1]; exact hm):=by
     simp[List.getElem?_map,List.getElem?_range,hj]at hp
     rw[<-hp,h2]
     rfl
    subst hv' hp'
    exact hzl.2 _ _ _ h1 h2
   obtain⟨hid1,hid2⟩:=hid (by simp[makesObj,ho])
   have R':=(R.newObj id hid1 hUU hid2 (.box e _) (.cells cells e) (fun T' cs e'=>by injection e' with e1 e2; subst e1 e2; exact⟨_,rfl,hrl⟩) (fun s pos e=>by cases e) st.nx st.nt).wide (fun _ h=>h) hVV
   have X':=(R.ext_at w.heap.size id hid1 hUU).trans ((Ext.refl _ _ _ _).wider hVV)
   refine val _ _ _ _ _ hrun R' X' rfl ?_ hk
   have:RepV (C.at id w.heap.size) st.toks U' V' (.slice (some ⟨(C.at id w.heap.size).ρ id,0,none⟩) n.toNat n.toNat) (.ms id 0 n.toNat n.toNat):= .ms hid2 (Nat.le_refl _)
   simpa [Cx.at]using this
  ·exact h.elim
 ·
  rename_i t x ho
  obtain⟨hu,h⟩:=h
  replace h:=bindO_elim h
  obtain⟨p,hp,h⟩:=h
  split at h
  ·rename_i s
   have ev:=(rep_val (ev_rep E hp)).1
   obtain⟨hid1,hid2⟩:=hid (by simp[makesObj,ho])
   have R':=(R.newObj id hid1 hUU hid2 (.iter s 0) (.stringIter s 0) (fun T' cs e=>by cases e) (fun s' pos e=>by injection e with e1 e2; subst e1 e2; rfl) st.nx st.nt).wide (fun _ h=>h) hVV
   have X':=(R.ext_at w.heap.size id hid1 hUU).trans ((Ext.refl _ _ _ _).wider hVV)
   refine val (.pointer (some ⟨w.heap.size,0,none⟩)) _ _ _ _ ?_ R' X' rfl ?_ h
   ·simp[execOp,ho,Instr.range,run_underlying hu,ev]
   ·have:RepV (C.at id w.heap.size) st.toks U' V' (.pointer (some ⟨(C.at id w.heap.size).ρ id,0,none⟩)) (.ptr id 0):= .ptr hid2
    simpa [Cx.at]using this
  ·exact h.elim
 ·
  rename_i x ho
  replace h:=bindO_elim h
  obtain⟨p,hp,h⟩:=h
  split at h
  ·rename_i id1
   replace h:=bindO_elim h
   obtain⟨ob,hob,h⟩:=h
   split at h
   ·rename_i s pos
    obtain⟨ev,hid0⟩:=rep_ptr (ev_rep E hp)
    have hit:=R.iter id1 s pos hob
    have hrep3:∀(C:Cx) (T:List (Nat×Tok)) (U V:Nat->Prop) (vs:List Value),(∀v∈vs,v.oneCell'=true)->RepV C T U V (.tuple vs.toArray) (.tup (vs.map .val)):=by
     intro C T nx nt vs h1
     refine .tup (by simp) (fun i v p hv hp=>?_)
     have hv':vs[i]? = some v:=by simpa using hv
     rw[List.getElem?_map,hv']at hp
     obtain rfl:=Option.some.inj hp
     exact .frz (.val (h1 v (List.mem_of_getElem? hv')))
    by_cases hlt:pos<s.size
    ·refine val (.tuple #[.bool true,.int .i64 pos,.int .i32 (Utf8.decode s pos).1]) _ _ _ _ ?_ ((R.step hob (pos+(Utf8.decode s pos).2)).wide hUU hVV) Xw rfl ?_ (h.1 hlt)
     ·simp only[execOp,ho,Instr.next,ev,Sem.run_bind,getObj,Sem.run,hit,Result.andThen_ok,if_pos hlt,setObj,Sem.run_pure,goInt]
     ·exact hrep3 _ _ _ _ [.bool true,.int .i64 pos,.int .i32 (Utf8.decode s pos).1] (by simp[Value.oneCell'])
    ·refine val (.tuple #[.bool false]) _ _ _ _ ?_ Rw Xw rfl ?_ (h.2 (by omega))
     ·simp only[execOp,ho,Instr.next,ev,Sem.run_bind,getObj,Sem.run,hit,Result.andThen_ok,if_neg hlt,Sem.run_pure]
     ·exact hrep3 _ _ _ _ [.bool false] (by simp[Value.oneCell'])
   ·exact h.elim
  ·exact h.elim
 ·
  rename_i c ho
  split at h
  ·rename_i hc
   obtain⟨htk1,htk2⟩:=htk (by simp[makesTok,ho,hc])
   obtain⟨v,p,st',w',C',h1,h2,h3,h4,h5,d,h6,hd'⟩:=append_sound E R ho hc htk1 hVV htk2 h
   have XX:Ext C' C' st'.toks st'.toks U V' U' V':=⟨SLe.refl _,fun _ _=>rfl,fun k t _ h=>⟨t,h,Nat.le_refl _,rfl,fun _=>rfl⟩,hUU,fun _ h=>h⟩
   exact val v p st' w' C' h1 (h2.wide hUU (fun _ h=>h)) (h3.wideU hUU) h4 (h5.ext XX) (hd'▸h6)
  ·obtain⟨v,p,h1,h2,h3⟩:=call_sound (P:=P) (w:=w) E ho h
   exact val v p st w C h1 Rw Xw rfl (h2.ext Xw) h3
  ·unfold callK at h
   split at h
   ·rename_i f hc
    replace h:=bindO_elim h
    obtain⟨pf,hpf,h⟩:=h
    split at h
    ·rename_i g caps
     replace h:=bindO_elim h
     obtain⟨ags,has,h⟩:=h
     obtain⟨vs,ef,hcs,hcr⟩:=rep_fn (ev_rep E hpf)
     obtain⟨ha1,ha2⟩:=evAll_rep E _ _ has
     have hall:∀(i:Nat) (v:Value) (p:PV),(c.args.map a.eval++vs)[i]? = some v->(ags++caps)[i]? = some p->RepV C st.toks U V v p:=by
      intro i v p hv hp
      have hal:(c.args.map a.eval).size=ags.length:=by simpa using ha1
      by_cases hi:i<ags.length
      ·rw[List.getElem?_append_left hi]at hp
       rw[Array.getElem?_append_left (by omega)]at hv
       exact ha2 i v p (by simpa using hv) hp
      ·rw[List.getElem?_append_right (by omega)]at hp
       rw[Array.getElem?_append_right (by omega)]at hv
       exact hcr _ v p (by rw[hal]at hv; exact hv) hp
     have hsz:(c.args.map a.eval++vs).size=(ags++caps).length:=by
      have:c.args.size=ags.length:=by simpa using ha1
      simp[this,hcs]
     cases h with
     |ext ws r ha hr ho' k=>
      have hvs:c.args.map a.eval++vs=ws.toArray:=by
       apply Array.ext_getElem?
       intro i
       have hw:ws.toArray[i]? = ws[i]? :=by simp
       rw[hw]
       by_cases hi:i<ws.length
       ·have h1:ws[i]? = some ws[i]:=List.getElem?_eq_getElem hi
        have h2:(ags++caps)[i]? = some (.val ws[i]):=by rw[ha,List.getElem?_map,h1]; rfl
        have hi':i<(c.args.map a.eval++vs).size:=by rw[hsz]; exact(List.getElem?_eq_some_iff.1 h2).1
        have h3:=Array.getElem?_eq_getElem hi'
        have:=(rep_val (hall i _ _ h3 h2)).1
        rw[h3,h1,this]
       ·rw[List.getElem?_eq_none (by omega),Array.getElem?_eq_none (by rw[hsz,ha,List.length_map]; omega)]
      have hrun:(execOp a.eval o).run P w = .ok (.value r) w:=by
       have hcf:=hr w
       rw[<-hvs]at hcf
       simp only[execOp,ho,Sem.run_bind,resolve,hc,ef,Deferred.ofValue,Sem.run_pure,Result.andThen_ok,invoke]
       simpa using hcf
      exact val r _ st w C hrun Rw Xw rfl ((extPV_rep ho').ext Xw) k
     |pure as' r hfz ok k=>
      obtain⟨hent,ok⟩:=ok
      obtain⟨hl,hget⟩:=fzAs_get hfz
      have hrun:(execOp a.eval o).run P w = .ok (.enter g (c.args.map a.eval++vs)) w:=by
       have hcf:=run_callFunc hent (c.args.map a.eval++vs) w
       simp only[execOp,ho,Sem.run_bind,resolve,hc,ef,Deferred.ofValue,Sem.run_pure,Result.andThen_ok,invoke]
       simpa using hcf
      rw[hrun,Oper.upon_enter]
      have hargs:∀(i:Nat) (v:Value) (p:PV),(c.args.map a.eval++vs)[i]? = some v->as'[i]? = some p->RepA C.S v p:=by
       intro i v p hv hp
       have hi:i<(ags++caps).length:=by rw[hl]; exact(List.getElem?_eq_some_iff.1 hp).1
       have hp0:=List.getElem?_eq_getElem hi
       exact fzA_rep (hget i _ p hp0 hp) (hall i v _ hv hp0)
      refine(ok C.S w _ R.known R.stable (by rw[hsz,hl]) hargs).mono ?_
      rintro e w' ⟨v,S',rfl,hS,hst,hnew,hr,hb⟩
      let C':Cx:={ C with S:=S' }
      have X':Ext C C' st.toks st.toks U V U V:=⟨hS,fun _ _=>rfl,fun k t _ h=>⟨t,h,Nat.le_refl _,rfl,fun _=>rfl⟩,fun _ h=>h,fun _ h=>h⟩
      have hold:∀b,b<w.heap.size->w'.heap[b]? = w.heap[b]? :=hb.block
      have hfree:∀b o,b<w.heap.size->C.S b o=none->S' b o=none:=by
       intro b o hb' hn
       cases h:S' b o with
       |none=>rfl
       |some u=>
        rcases hnew b o u h with h1|h1
        ·rw[hn]at h1; cases h1
        ·omega
      have hs0:=R.frame.size
      have R':Rel own S0 w0 C' U V st w':=by
       refine⟨⟨hb.os.trans R.frame.os,hb.tape.trans R.frame.tape,hb.output.trans R.frame.output,Nat.le_trans hs0 hb.size,fun k hk hn=>(hold k (by omega)).trans (R.frame.block k hk hn)⟩,hst,?_,?_,?_,R.hinj,?_,R.tbox,R.tinj,?_,R.sold.trans hS,R.base.trans X',R.glob⟩
       ·intro id T cs h
        obtain⟨us,h1,h2,h3⟩:=R.box id T cs h
        exact⟨us,(hold _ (heap_lt h1)).trans h1,h2,fun i v p hv hp=>⟨(h3 i v p hv hp).1,(h3 i v p hv hp).2.ext X'⟩⟩
       ·intro id s pos h
        have h1:=R.iter id s pos h
        exact(hold _ (heap_lt h1)).trans h1
       ·intro id o h
        obtain⟨h1,h2,h3,h4⟩:=R.hown id o h
        exact⟨h1,Nat.lt_of_lt_of_le h2 hb.size,h3,fun o'=>hfree _ _ h2 (h4 o')⟩
       ·intro k t h
        obtain⟨h1,h2,⟨us,h3,h4⟩,h5,h6,h7⟩:=R.tok k t h
        exact⟨h1,h2,⟨us,(hold _ (heap_lt h3)).trans h3,h4⟩,h5,h6,fun o ho'=>hfree _ _ (heap_lt h3) (h7 o ho')⟩
       ·intro b o u h
        rcases hnew b o u h with h1|h1
        ·exact R.snew b o u h1
        ·exact .inr (.inr (by omega))
      exact⟨_,k,StN.of_put hd hs hf (R'.wide hUU hVV) (E.ext ((X'.wider hVV).wideU hUU) rfl) (RepA.up (C:=C') hr)⟩
    ·exact h.elim
   ·exact h.elim
 ·rename_i hne1 hne2 hne3 hne4 hne5 hne6 hne7 hne8
  exact pure rfl h
end
end Go.Pw

end
