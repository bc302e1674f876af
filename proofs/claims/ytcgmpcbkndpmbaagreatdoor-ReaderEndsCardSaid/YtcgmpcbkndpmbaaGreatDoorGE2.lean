/-
  Contracts and plain laws on the way to the statement; each says its own conditions.
-/
import Derived.Test.YtcgmpcbkndpmbaaGreatDoorGE1
import Derived.Scope
import Derived.Laws.BitsLemmas
section
namespace Go.Pw
open Go Go.RowKit
set_option linter.unusedVariables false
set_option linter.unusedSimpArgs false
structure Det {α:Type} (F:(α->Prop)->Prop):Prop where
 out:∀K,F K->∃x,K x/\∀K':α->Prop,K' x->F K'
theorem Det.ret {α:Type}(x:α):Det (fun K:α->Prop=>K x):=⟨fun K h=>⟨x,h,fun K' h=>h⟩⟩
theorem Det.ff {α:Type}:Det (fun _:α->Prop=>False):=⟨fun K h=>h.elim⟩
theorem Det.bindO {α β:Type}{o:Option β}{G:β->(α->Prop)->Prop}(h:∀x,Det (G x)):Det (fun K=>bindO o fun x=>G x K):=by
 cases o with
 |none=>exact Det.ff
 |some x=>exact h x
theorem Det.bindR {α:Type}{o:Option α}:Det (fun K:α->Prop=>Go.Pw.bindO o K):=Det.bindO (fun x=>Det.ret x)
theorem Det.intK {α:Type}{p:PV}{G:Int->(α->Prop)->Prop}(h:∀i,Det (G i)):Det (fun K=>intK p fun i=>G i K):=by
 unfold Go.Pw.intK
 cases p with
 |val v=>cases v<;>first|exact Det.ff|exact h _
 |_=>exact Det.ff
theorem Det.and {α:Type}{c:Prop}{F:(α->Prop)->Prop}(h:Det F):Det (fun K=>c/\F K):=
 ⟨fun K ⟨hc,hf⟩=>by obtain⟨x,h1,h2⟩:=h.out K hf; exact⟨x,h1,fun K' hk=>⟨hc,h2 K' hk⟩⟩⟩
theorem Det.comp {α β:Type}{F:(β->Prop)->Prop}(h:Det F)(g:β->α):Det (fun K:α->Prop=>F fun p=>K (g p)):=
 ⟨fun K hf=>by obtain⟨x,h1,h2⟩:=h.out _ hf; exact⟨g x,h1,fun K' hk=>h2 (fun p=>K' (g p)) hk⟩⟩
theorem Det.bool {α:Type}{t:Bool}{F G:(α->Prop)->Prop}(hf:Det F)(hg:Det G):Det (fun K=>(t=true->F K)/\(t=false->G K)):=by
 cases t with
 |true=>exact⟨fun K h=>by obtain⟨x,h1,h2⟩:=hf.out K (h.1 rfl); exact⟨x,h1,fun K' hk=>⟨fun _=>h2 K' hk,fun e=>by cases e⟩⟩⟩
 |false=>exact⟨fun K h=>by obtain⟨x,h1,h2⟩:=hg.out K (h.2 rfl); exact⟨x,h1,fun K' hk=>⟨fun e=>(by cases e),fun _=>h2 K' hk⟩⟩⟩
theorem Det.lt {α:Type}{a b:Nat}{F G:(α->Prop)->Prop}(hf:Det F)(hg:Det G):Det (fun K=>(a<b->F K)/\(b<=a->G K)):=by
 by_cases h:a<b
 ·exact⟨fun K k=>by obtain⟨x,h1,h2⟩:=hf.out K (k.1 h); exact⟨x,h1,fun K' hk=>⟨fun _=>h2 K' hk,fun e=>by omega⟩⟩⟩
 ·exact⟨fun K k=>by obtain⟨x,h1,h2⟩:=hg.out K (k.2 (by omega)); exact⟨x,h1,fun K' hk=>⟨fun e=>absurd e h,fun _=>h2 K' hk⟩⟩⟩
theorem Det.mono {α:Type}{F:(α->Prop)->Prop}(h:Det F){K K':α->Prop}(hk:∀x,K x->K' x)(f:F K):F K':=by
 obtain⟨x,h1,h2⟩:=h.out K f
 exact h2 K' (hk x h1)
section
variable {P:Program} {st:PS}
theorem bounds_det {α:Type}{lo hi:Option Operand}{len:Nat}{G:Nat->Nat->(α->Prop)->Prop}(h:∀l r,Det (G l r)):Det (fun K=>boundsK st lo hi len fun l r=>G l r K):=by
 unfold boundsK
 cases lo<;>cases hi
 ·exact h _ _
 ·exact Det.bindO fun _=>Det.intK fun _=>Det.and (Det.and (h _ _))
 ·exact Det.bindO fun _=>Det.intK fun _=>Det.and (Det.and (h _ _))
 ·exact Det.bindO fun _=>Det.intK fun _=>Det.bindO fun _=>Det.intK fun _=>Det.and (Det.and (Det.and (h _ _)))
theorem bopK_det {op:BinOp}{t:TypeId}{x y:Value}:Det (bopK P op t x y):=by
 unfold bopK
 split
 ·cases op<;>first|exact Det.and (Det.and (Det.ret _))|exact Det.and (Det.ret _)
 ·cases op<;>first|exact Det.ff|exact Det.and (Det.ret _)|exact Det.ret _
 ·cases op<;>first|exact Det.and Det.ff|exact Det.and (Det.ret _)
 ·cases op<;>first|exact Det.and Det.ff|exact Det.and (Det.ret _)
 ·exact Det.ff
theorem isNil_det {op:BinOp}{b:Bool}:Det (isNilK op b):=by
 unfold isNilK
 cases op<;>first|exact Det.ff|exact Det.ret _
theorem bin_det {op:BinOp}{t:TypeId}{x y:Operand}:Det (binK P st op t x y):=by
 unfold binK
 refine Det.bindO fun p=>Det.bindO fun q=>?_
 split
 ·exact Det.and (Det.and isNil_det)
 ·exact bopK_det
 ·exact Det.and (Det.and isNil_det)
 ·exact Det.and (Det.and isNil_det)
 ·exact Det.and isNil_det
 ·exact Det.ff
theorem slice_det {t:TypeId}{x:Operand}{lo hi:Option Operand}:Det (sliceK P st t x lo hi):=by
 unfold sliceK
 split
 ·refine Det.bindO fun p=>?_
  split
  ·exact bounds_det fun l r=>Det.ret _
  ·exact Det.ff
 ·refine Det.bindO fun n=>Det.bindO fun p=>?_
  split
  ·exact bounds_det fun l r=>Det.and (Det.ret _)
  ·exact bounds_det fun l r=>Det.and (Det.ret _)
  ·exact bounds_det fun l r=>Det.ret _
  ·exact bounds_det fun l r=>Det.and (Det.ret _)
  ·exact Det.ff
 ·refine Det.bindO fun n=>Det.bindO fun p=>?_
  split
  ·exact bounds_det fun l r=>Det.and (Det.ret _)
  ·exact Det.ff
 ·exact Det.ff
theorem indexAddr_det {t:TypeId}{x i:Operand}:Det (indexAddrK P st t x i):=by
 unfold indexAddrK
 split
 ·refine Det.bindO fun n=>Det.bindO fun p=>Det.bindO fun q=>Det.intK fun i=>?_
  split
  ·exact Det.and (Det.and (Det.and (Det.ret _)))
  ·exact Det.and (Det.and (Det.and (Det.ret _)))
  ·exact Det.and (Det.and (Det.ret _))
  ·exact Det.ff
 ·refine Det.bindO fun n=>Det.bindO fun p=>Det.bindO fun q=>Det.intK fun i=>?_
  split
  ·exact Det.and (Det.and (Det.ret _))
  ·exact Det.ff
 ·exact Det.ff
theorem index_det {t:TypeId}{x i:Operand}:Det (indexK P st t x i):=by
 unfold indexK
 split
 ·refine Det.bindO fun p=>Det.bindO fun q=>Det.intK fun i=>?_
  split
  ·exact Det.and (Det.and (Det.ret _))
  ·exact Det.ff
 ·refine Det.bindO fun n=>Det.bindO fun p=>Det.bindO fun q=>Det.intK fun i=>?_
  split
  ·exact Det.and (Det.and Det.bindR)
  ·exact Det.ff
 ·exact Det.ff
theorem fieldAddr_det {s:TypeId}{x:Operand}{f:Nat}:Det (fieldAddrK P st s x f):=by
 unfold fieldAddrK
 split
 ·refine Det.bindO fun fd=>Det.bindO fun n=>Det.and (Det.bindO fun p=>?_)
  split
  ·exact Det.ret _
  ·exact Det.ret _
  ·exact Det.ff
 ·exact Det.ff
theorem field_det {s:TypeId}{x:Operand}{f:Nat}:Det (fieldK P st s x f):=by
 unfold fieldK
 split
 ·refine Det.bindO fun fd=>Det.bindO fun p=>?_
  split
  ·exact Det.bindR
  ·exact Det.ff
 ·exact Det.ff
theorem load_det {t:TypeId}{x:Operand}:Det (loadK P st t x):=by
 unfold loadK
 refine Det.bindO fun p=>?_
 split
 ·refine Det.bindO fun o=>?_
  split
  ·exact Det.bindR
  ·exact Det.ff
 ·exact Det.bindR
 ·exact Det.ff
theorem build_det {t:TypeId}{parts:List (Nat×Operand)}:Det (buildK P st t parts):=by
 unfold buildK
 split
 ·exact Det.bindO fun z=>Det.bindO fun pl=>Det.bindO fun ps=>Det.and (Det.and (Det.bindO fun cs=>Det.ret _))
 ·exact Det.bindO fun z=>Det.bindO fun pl=>Det.bindO fun ps=>Det.and (Det.and (Det.bindO fun cs=>Det.ret _))
 ·exact Det.ff
theorem len_det {t:TypeId}{x:Operand}:Det (lenK P st t x):=by
 unfold lenK
 split
 ·refine Det.bindO fun p=>?_
  split
  ·exact Det.ret _
  ·exact Det.ff
 ·refine Det.bindO fun p=>?_
  split
  ·exact Det.ret _
  ·exact Det.ret _
  ·exact Det.ret _
  ·exact Det.ret _
  ·exact Det.ff
 ·exact Det.ret _
 ·exact Det.ff
theorem un_det {op:UnOp}{p:PV}:Det (unK op p):=by
 unfold unK
 split
 ·exact Det.ret _
 ·exact Det.ret _
 ·exact Det.ff
theorem conv_det {s d:TypeId}{p:PV}:Det (convK P s d p):=by
 unfold convK
 refine Det.and ?_
 split
 ·exact Det.ret _
 ·exact Det.ret _
 ·exact Det.ret _
 ·exact Det.and (Det.bindO fun l=>Det.ret _)
 ·exact Det.and (Det.bindO fun l=>Det.ret _)
 ·exact Det.and (Det.ret _)
 ·exact Det.ff
theorem max2_det {b:Bool}{p q:PV}:Det (max2K b p q):=by
 unfold max2K
 split
 ·exact Det.and (Det.ret _)
 ·exact Det.ff
theorem callV_det {c:Call}:Det (callV P st c):=by
 unfold callV
 split
 ·split
  ·exact len_det
  ·exact Det.ff
 ·split
  ·exact Det.bindO fun p=>Det.bindO fun q=>max2_det
  ·exact Det.ff
 ·split
  ·exact Det.bindO fun p=>Det.bindO fun q=>max2_det
  ·exact Det.ff
 ·exact Det.ff
theorem valK_det {op:Op}:Det (valK P st op):=by
 unfold valK
 split
 ·exact Det.bindR
 ·exact Det.bindR
 ·refine Det.bindO fun p=>?_
  split
  ·exact Det.bool Det.bindR Det.bindR
  ·exact Det.ff
 ·exact load_det
 ·exact build_det
 ·exact bin_det
 ·exact Det.bindO fun p=>un_det
 ·exact Det.bindO fun p=>conv_det
 ·exact slice_det
 ·exact fieldAddr_det
 ·exact field_det
 ·exact indexAddr_det
 ·exact index_det
 ·refine Det.bindO fun p=>?_
  split
  ·exact Det.bindR
  ·exact Det.ff
 ·exact Det.bindO fun u=>Det.and (Det.bindO fun p=>Det.ret _)
 ·split
  ·exact Det.bindO fun cs=>Det.ret _
  ·exact Det.and (Det.bindO fun cs=>Det.ret _)
 ·refine Det.bindO fun p=>?_
  split
  ·exact Det.ret _
  ·exact Det.ret _
  ·exact Det.ret _
  ·exact Det.ff
 ·exact callV_det
 ·exact Det.ff
theorem appTail_det {tk0 e sz by_:Nat}{d:PV}{ys:List (List PV)}:Det (appTail st tk0 e sz by_ d ys):=by
 unfold appTail
 split
 ·exact Det.and (Det.ret _)
 ·split
  ·exact Det.and (Det.and (Det.ret _))
  ·exact Det.bindO fun tk=>Det.and (Det.and (Det.and (Det.and (Det.and (Det.ret _)))))
  ·exact Det.and (Det.bindO fun xs0=>Det.bindO fun xs=>Det.and (Det.and (Det.and (Det.ret _))))
  ·exact Det.ff
theorem append_det {tk:Nat}{c:Call}:Det (appendK P st tk c):=by
 unfold appendK
 split
 ·split
  ·refine Det.bindO fun sz=>Det.bindO fun by_=>Det.bindO fun z=>Det.and (Det.and (Det.bindO fun d=>Det.bindO fun s=>?_))
   split
   ·exact Det.and (Det.and (Det.and appTail_det))
   ·exact Det.and (Det.bindO fun ys0=>Det.bindO fun ys=>Det.and appTail_det)
  ·exact Det.ff
 ·exact Det.ff
theorem call_det {c:Call}:Det (callK P st c):=by
 unfold callK
 split
 ·refine Det.bindO fun pf=>?_
  split
  ·refine Det.bindO fun ags=>⟨fun K h=>?_⟩
   cases h with
   |pure as' r hf ok k=>exact⟨r,k,fun K' hk=> .pure as' r hf ok hk⟩
   |ext vs r ha hr ho k=>exact⟨_,k,fun K' hk=> .ext vs r ha hr ho hk⟩
  ·exact Det.ff
 ·exact Det.ff
theorem stepD_det {o:Oper}{id tk:Nat}:Det (stepD P o st id tk):=by
 unfold stepD
 split
 ·exact Det.bindO fun z=>Det.and (Det.ret _)
 ·exact Det.bindO fun z=>Det.and (Det.ret _)
 ·refine Det.bindO fun p=>Det.bindO fun q=>?_
  split
  ·refine Det.bindO fun ob=>?_
   split
   ·exact Det.and (Det.and (Det.and (Det.ret _)))
   ·exact Det.ff
  ·exact Det.ff
 ·split
  ·exact Det.bindO fun sz=>Det.bindO fun z=>Det.bindO fun ps=>Det.bindO fun xs=>Det.and (Det.and (Det.and (Det.and (Det.and (Det.ret _)))))
  ·exact Det.ff
 ·split
  ·exact Det.bindO fun sz=>Det.bindO fun b=>Det.bindO fun z=>Det.bindO fun p=>Det.bindO fun q=>Det.intK fun n=>Det.intK fun m=>Det.and (Det.and (Det.and (Det.and (Det.and (Det.and (Det.and (Det.ret _)))))))
  ·exact Det.ff
 ·refine Det.and (Det.bindO fun p=>?_)
  split
  ·exact Det.ret _
  ·exact Det.ff
 ·refine Det.bindO fun p=>?_
  split
  ·refine Det.bindO fun ob=>?_
   split
   ·exact Det.lt (Det.ret _) (Det.ret _)
   ·exact Det.ff
  ·exact Det.ff
 ·split
  ·exact append_det
  ·exact callV_det.comp _
  ·exact call_det.comp _
 ·exact valK_det.comp _
theorem stepD_mono {o:Oper}{id tk:Nat}{K K':Delta->Prop}(hk:∀d,K d->K' d)(h:stepD P o st id tk K):stepD P o st id tk K':=stepD_det.mono hk h
end
end Go.Pw

end
section
namespace Go.Pw
open Go Go.RowKit
set_option linter.unusedVariables false
set_option linter.unusedSimpArgs false
def guardK (ops:Array Oper)(g:Nat)(st:PS)(K:Option Bool->Prop):Prop:=
 bindO ((ops[g]?).bind (·.dst)) fun d=>bindO (lkp st.env d) fun p=>match p with
 | .val (.bool t)=>K (some t)
 | .tup []=>K none
 |_=>False
def OkI (P:Program)(f:FuncId)(args:List PV)(st:PS)(Q:PV->PS->Prop):Prop:=
 enters P f=true/\∀(own:Nat->Prop) (S0:Base) (w0 w:World) (C:Cx) (vals:Array Value),Rel own S0 w0 C (· < st.nx) (· < st.nt) st w->vals.size=args.length ->
  (∀(i:Nat) (v:Value) (p:PV),vals[i]? = some v->args[i]? = some p->RepV C st.toks (· < st.nx) (· < st.nt) v p) ->
  Calls P f vals w fun e w'=>∃r st' v C',Q r st'/\e = .returned v/\Rel own S0 w0 C' (· < st'.nx) (· < st'.nt) st' w'/\Ext C C' st.toks st'.toks (· < st.nx) (· < st.nt) (· < st'.nx) (· < st'.nt)/\RepV C' st'.toks (· < st'.nx) (· < st'.nt) v r
inductive CallOk (dr:Bool) (P:Program) (g:FuncId) (ags:List PV) (st:PS) (id tk:Nat) (K:PV->PS->Prop):Prop
 |pure (as':List PV) (r:PV) (hf:fzAs ags=some as') (ok:Ok P g as' r) (k:K r st):CallOk dr P g ags st id tk K
 |ext (vs:List Value) (r:Value) (ha:ags=vs.map .val) (hr:∀w,(callFunc g vs.toArray).run P w = .ok (.value r) w) (ho:extOk r=true) (k:K (extPV r) st):CallOk dr P g ags st id tk K
 |own (hdr:dr=false) (Q:PV->PS->Prop) (ok:OkI P g ags { st with nx:=id,nt:=tk } Q) (k:∀r st',Q r st'->K r { st' with env:=st.env }):CallOk dr P g ags st id tk K
def DispOk (P:Program)(T:TypeId)(m:String)(g:FuncId)(δ:Nat):Prop:=
 ∀(b o:Nat) (w:World),(method (P.types.size+Made.depth) T (.pointer (some ⟨b,o,none⟩)) m).run P w = .ok (g,.pointer (some ⟨b,o+δ,none⟩)) w
inductive InvOk (P:Program) (T:TypeId) (m:String) (i off:Nat) (ags:List PV) (st:PS) (id tk:Nat) (K:PV->PS->Prop):Prop
 |mk (g:FuncId) (δ:Nat) (Q:PV->PS->Prop) (hd:DispOk P T m g δ) (ok:OkI P g (.ptr i (off+δ)::ags) { st with nx:=id,nt:=tk } Q) (k:∀r st',Q r st'->K r { st' with env:=st.env }):InvOk P T m i off ags st id tk K
inductive BmOk (P:Program) (g:FuncId) (ags:List PV) (st:PS) (id tk:Nat) (K:PV->PS->Prop):Prop
 |mk (Q:PV->PS->Prop) (ok:OkI P g ags { st with nx:=id,nt:=tk } Q) (k:∀r st',Q r st'->K r { st' with env:=st.env }):BmOk P g ags st id tk K
def stepN (dr:Bool)(P:Program)(o:Oper)(st:PS)(id tk:Nat)(K:PS->Prop):Prop:=
 match o.op with
 | .call c=>match c.callee with
  | .value f=>bindO (st.ev f) fun pf=>match pf with
   | .fn g caps=>bindO (evAll st c.args.toList) fun ags=>CallOk dr P g (ags++caps) st id tk fun p st'=>K (st'.put o.dst p)
   | .bm g fs=>bindO (evAll st c.args.toList) fun ags=>dr=false/\BmOk P g (fs++ags) st id tk fun p st'=>K (st'.put o.dst p)
   |_=>False
  | .invoke x m=>bindO (st.ev x) fun p=>match p with
   | .iface T (.ptr i off)=>bindO (evAll st c.args.toList) fun ags=>dr=false/\InvOk P T m i off ags st id tk fun p st'=>K (st'.put o.dst p)
   |_=>False
  |_=>stepN0 P o st id tk K
 |_=>stepN0 P o st id tk K
def dops0 (P:Program)(ops:Array Oper)(nx0 nt0:Nat):Nat->List Oper->PS->(PS->Prop)->Prop
 |i,[],st,K=>K { st with nx:=nx0+i,nt:=nt0+i }
 |i,o::r,st,K=>match o.guard with
  |none=>stepN0 P o st (nx0+i) (nt0+i) fun st'=>dops0 P ops nx0 nt0 (i+1) r st' K
  |some (g,b)=>guardK ops g st fun t=>(t=some b->stepN0 P o st (nx0+i) (nt0+i) fun st'=>dops0 P ops nx0 nt0 (i+1) r st' K)/\(t≠some b->dops0 P ops nx0 nt0 (i+1) r (st.kill o.dst) K)
def dops (P:Program)(ops:Array Oper)(nx0 nt0:Nat):Nat->List Oper->PS->(PS->Prop)->Prop
 |i,[],st,K=>K { st with nx:=nx0+i,nt:=nt0+i }
 |i,o::r,st,K=>match o.guard with
  |none=>stepN true P o st (nx0+i) (nt0+i) fun st'=>dops P ops nx0 nt0 (i+1) r st' K
  |some (g,b)=>guardK ops g st fun t=>(t=some b->stepN true P o st (nx0+i) (nt0+i) fun st'=>dops P ops nx0 nt0 (i+1) r st' K)/\(t≠some b->dops P ops nx0 nt0 (i+1) r (st.kill o.dst) K)
def dopsS (P:Program)(ops:Array Oper):Nat->List Oper->PS->(PS->Prop)->Prop
 |i,[],st,K=>K { st with nx:=st.nx+i,nt:=st.nt+i }
 |i,o::r,st,K=>match o.guard with
  |none=>stepN false P o st (st.nx+i) (st.nt+i) fun st'=>dopsS P ops (i+1) r st' K
  |some (g,b)=>guardK ops g st fun t=>(t=some b->stepN false P o st (st.nx+i) (st.nt+i) fun st'=>dopsS P ops (i+1) r st' K)/\(t≠some b->dopsS P ops (i+1) r (st.kill o.dst) K)
def ancs:List Oper->Nat->List Nat->List Nat
 | [],_,acc=>acc
 |o::r,i,acc=>ancs r (i+1) (acc++[o.after.toList.foldl (fun m e=>if Region.binds .any e then m ||| (1 <<< e.on) ||| acc.getD e.on 0 else m) 0])
def kindOf (o:Oper):Nat:=
 match o.op with
 | .load _ _=>1
 | .alloc _=>2
 | .box _ _=>2
 | .makeSlice _ _ _=>2
 | .range _ _=>2
 | .buildSlice _ _ _=>2
 | .store _ _ _=>3
 | .next _ _=>3
 | .call c=>match c.callee with
  | .builtin .append=>4
  |_=>0
 |_=>0
def conflict (k l:Nat):Bool:=(k==3&&(l==1||l==3||l==4))||(l==3&&(k==1||k==4))||(k==4&&l==4)
def readsOf (ops:Array Oper)(o:Oper):List Nat:=
 (o.op.operands.toList.filterMap fun | .tmp t=>some t|_=>none)++(match o.guard with
  |some (g,_)=>(((ops[g]?).bind (·.dst)).toList)
  |none=>[])
def slotsClash (ops:Array Oper)(x y:Oper):Bool:=
 (match x.dst with
  |some d=>(readsOf ops y).contains d||y.dst==some d
  |none=>false) ||
 (match y.dst with
  |some d=>(readsOf ops x).contains d
  |none=>false)
def drawOk (ops:Array Oper):Bool:=
 let A:=ancs ops.toList 0 []
 (List.range ops.size).all fun i=>match ops[i]? with
  |none=>false
  |some oi=>(oi.after.toList.all fun e=> !Region.binds .any e||decide (e.on<i))&&(List.range i).all fun j=>match ops[j]? with
   |none=>false
   |some oj=>(A.getD i 0).testBit j||(!conflict (kindOf oi) (kindOf oj) && !slotsClash ops oi oj)
mutual
def PV.lt (a b:Nat):PV->Bool
 | .val _=>true
 | .sl _=>true
 | .row k _=>decide (k<b)
 | .ptr i _=>decide (i<a)
 | .ms i _ _ _=>decide (i<a)
 | .fp _=>true
 | .agg cs=>PV.ltL a b cs
 | .tup cs=>PV.ltL a b cs
 | .fn _ cs=>PV.ltL a b cs
 | .iface _ p=>PV.lt a b p
 | .bm _ cs=>PV.ltL a b cs
def PV.ltL (a b:Nat):List PV->Bool
 | []=>true
 |p::r=>PV.lt a b p&&PV.ltL a b r
end
def PObj.lt (a b:Nat):PObj->Bool
 | .box _ cs=>PV.ltL a b cs
 | .iter _ _=>true
def Frz1:PV->PV->Prop
 | .row _ xs,.sl ys=>xs=ys
 | .val v,.sl ys=>v = .slice none 0 0/\ys=[]
 |p,q=>some p=some q
def FrzL:List PV->List PV->Prop
 | [],[]=>True
 |p::r,q::s=>Frz1 p q/\FrzL r s
 |_,_=>False
def Frz:PV->PV->Prop
 | .agg l,.agg m=>FrzL l m
 |p,q=>Frz1 p q
def FrzO:PObj->PObj->Prop
 | .box t cs,.box t' cs'=>t=t'/\FrzL cs cs'
 |o,o'=>some o=some o'
theorem Frz1.refl (p:PV):Frz1 p p:=by
 unfold Frz1; split<;>simp_all
theorem FrzL.refl:∀l,FrzL l l
 | []=>trivial
 |p::r=>⟨Frz1.refl p,FrzL.refl r⟩
theorem Frz.refl (p:PV):Frz p p:=by
 unfold Frz; split
 ·exact FrzL.refl _
 ·exact Frz1.refl _
theorem FrzO.refl (o:PObj):FrzO o o:=by
 cases o with
 |box t cs=>exact⟨rfl,FrzL.refl _⟩
 |iter s pos=>rfl
theorem Frz1.rep {C:Cx}{T:List (Nat×Tok)}{U V:Nat->Prop}{v:Value}{p q:PV}(h:Frz1 p q)(r:RepV C T U V v p):RepV C T U V v q:=by
 unfold Frz1 at h
 split at h
 ·subst h; exact .frz (rep_sl (.inr ⟨_,r⟩))
 ·obtain⟨rfl,rfl⟩:=h
  obtain⟨rfl,_⟩:=rep_val r
  exact .frz (.sl (sz:=0) (fun _ _=> .nilIface) rfl (Nat.le_refl _) (by simp) (by simp) (by simp))
 ·obtain rfl:=Option.some.inj h; exact r
theorem FrzL.len:∀{l m:List PV},FrzL l m->l.length=m.length
 | [],[],_=>rfl
 |_::_,_::_,h=>by simp[FrzL.len h.2]
 | [],_::_,h=>h.elim
 |_::_,[],h=>h.elim
theorem FrzL.get:∀{l m:List PV},FrzL l m->∀(i:Nat)(p q:PV),l[i]? = some p->m[i]? = some q->Frz1 p q
 | [],[],_,i,p,q,h,_=>by simp at h
 |a::l,b::m,h,0,p,q,hp,hq=>by simp at hp hq; subst hp hq; exact h.1
 |a::l,b::m,h,i+1,p,q,hp,hq=>FrzL.get h.2 i p q (by simpa using hp) (by simpa using hq)
 | [],_::_,h,_,_,_,_,_=>h.elim
 |_::_,[],h,_,_,_,_,_=>h.elim
theorem Frz.rep {C:Cx}{T:List (Nat×Tok)}{U V:Nat->Prop}{v:Value}{p q:PV}(h:Frz p q)(r:RepV C T U V v p):RepV C T U V v q:=by
 unfold Frz at h
 split at h
 ·rename_i l m
  cases r with
  |frz r=>cases r
  |agg hs hr h1=>
   refine .agg (hs.trans h.len) (fun i v p hv hp=>?_) h1
   have hi:i<l.length:=by rw[<-hs]; exact(Array.getElem?_eq_some_iff.1 hv).1
   exact(h.get i _ p (List.getElem?_eq_getElem hi) hp).rep (hr i v _ hv (List.getElem?_eq_getElem hi))
 ·exact h.rep r
structure Weak (L:Nat×Nat) (st st':PS):Prop where
 env:∀e∈st'.env,bindO (lkp st.env e.1) (fun q=>Frz q e.2)/\e.2.lt st'.nx st'.nt=true
 heap:∀e∈st'.heap,bindO (lkp st.heap e.1) (fun q=>FrzO q e.2)/\e.1<st'.nx/\e.2.lt st'.nx st'.nt=true
 toks:∀e∈st'.toks,lkp st.toks e.1=some e.2/\e.1<st'.nt
 nx:st'.nx<=st.nx
 nt:st'.nt<=st.nt
 lx:L.1<=st'.nx
 lt:L.2<=st'.nt
def barOk (ops:Array Oper)(k:Nat):Bool:=
 let A:=ancs ops.toList 0 []
 (match ops[k]? with
  |some o=>o.guard.isNone
  |none=>false)&&((List.range ops.size).all fun i=>i==k||(if i<k then(A.getD k 0).testBit i else(A.getD i 0).testBit k))
def dopsB (P:Program)(ops:Array Oper)(l:List Oper)(k:Nat)(st:PS)(K:PS->Prop):Prop:=
 dops P ops st.nx st.nt 0 (l.take k) st fun s=>dopsS P ops 0 ((l.drop k).take 1) s fun s'=>dops P ops s'.nx s'.nt (k+1) (l.drop (k+1)) s' K
structure Lim where
 l:Nat×Nat
 bar:Nat->Option Nat
abbrev noBar:Nat->Option Nat:=fun _=>none
def oneBar (r k:Nat):Nat->Option Nat:=fun i=>if i=r then some k else none
def SemStep (P:Program)(o:Oper)(st:PS)(K:PS->Prop):Prop:=
 o.guard=none/\∀(own:Nat->Prop) (S0:Base) (w0:World) (N:Nat) (a:Act) (w:World) (X:Exit->Act->World->Prop),fitsDst N o.dst=true->StN own S0 w0 N (· < st.nx) (· < st.nt) st a w ->
  Oper.wp P o a w (fun a' w'=>∃st',K st'/\StN own S0 w0 N (· < st'.nx) (· < st'.nt) st' a' w') X
def stepU (P:Program)(ops:Array Oper)(o:Oper)(st:PS)(K:PS->Prop):Prop:=dopsS P ops 0 [o] st K∨SemStep P o st K
def dopsX (P:Program)(ops:Array Oper):List Oper->PS->(PS->Prop)->Prop
 | [],st,K=>K st
 |o::r,st,K=>stepU P ops o st fun s=>dopsX P ops r s K
def dopsM (P:Program)(ops:Array Oper)(l:List Oper)(k:Nat)(st:PS)(K:PS->Prop):Prop:=
 dopsS P ops 0 (l.take k) st fun s=>dopsX P ops (l.drop k) s K
def expl (P:Program)(ops:Array Oper)(l:Nat×Nat)(st:PS)(K:PS->Prop):Prop:=
 ∃(ι:Type) (I:ι->PS) (B:ι->Array Bool) (m:ι->Nat) (i0:ι),Weak l st (I i0)/\B i0=Array.replicate ops.size false/\m i0<=ops.size /\
  ∀i,(Region.ready .any ops (B i)=[]->K (I i))/\(m i=0->Region.ready .any ops (B i)=[]) /\
   ∀k∈Region.ready .any ops (B i),bindO ops[k]? fun o=>stepU P ops o (I i) fun s'=>∃j,m j<m i/\B j=(B i).setIfInBounds k true/\Weak l s' (I j)
def pwp (P:Program)(L:Lim):Code->PS->(Exit->PS->Prop)->Prop
 | .skip,st,Q=>Q .normal st
 | .label _,st,Q=>Q .normal st
 | .region id ops true,st,Q=>match L.bar id with
  |none=>dops P ops st.nx st.nt 0 ops.toList st (Q .normal)
  |some k=>if k<ops.size then barOk ops k=true/\dopsB P ops ops.toList k st (Q .normal) else expl P ops L.l st (Q .normal)
 | .region id ops false,st,Q=>match L.bar id with
  |none=>dopsS P ops 0 ops.toList st (Q .normal)
  |some k=>if k=1000 then ∃st',Weak L.l st st'/\dopsS P ops 0 ops.toList st' (Q .normal) else dopsM P ops ops.toList k st (Q .normal)
 | .seq a b,st,Q=>pwp P L a st fun x st'=>match x with
  | .normal=>pwp P L b st' Q
  |x=>Q x st'
 | .cond c t e,st,Q=>bindO (st.ev c) fun p=>match p with
  | .val (.bool b)=>(b=true->pwp P L t st Q)/\(b=false->pwp P L e st Q)
  |_=>False
 | .block id c,st,Q=>pwp P L c st fun x st'=>match x with
  | .exit i=>if i=id then Q .normal st' else Q (.exit i) st'
  |x=>Q x st'
 | .loop c,st,Q=>∃(ι:Type) (I:ι->PS) (m:ι->Nat) (i0:ι),Weak L.l st (I i0)/\∀i,pwp P L c (I i) fun x st'=>match x with
  | .normal=>∃j,m j<m i/\Weak L.l st' (I j)
  |x=>Q x st'
 | .scope c,st,Q=>pwp P L c st fun x st'=>match x with
  | .goto _=>False
  |x=>Q x st'
 | .exit id,st,Q=>Q (.exit id) st
 | .ret,st,Q=>Q .ret st
 |_,_,_=>False
def fitsC (bar:Nat->Option Nat)(N:Nat):Code->Bool
 | .region id ops draw=>(ops.toList.all fun o=>fitsDst N o.dst)&&(!draw||(drawOk ops||match bar id with|some n=>decide (ops.size<=n)|none=>false))
 | .seq a b=>fitsC bar N a&&fitsC bar N b
 | .cond _ a b=>fitsC bar N a&&fitsC bar N b
 | .block _ c=>fitsC bar N c
 | .loop c=>fitsC bar N c
 | .scope c=>fitsC bar N c
 |_=>true
section
variable {P:Program} {own:Nat->Prop} {S0:Base} {w0 w:World} {C:Cx} {st:PS} {a:Act} {N:Nat}
theorem ltL_get {a b:Nat}:∀{cs:List PV},PV.ltL a b cs=true->∀p∈cs,p.lt a b=true
 | [],_,p,hp=>by cases hp
 |q::r,h,p,hp=>by
  simp only[PV.ltL,Bool.and_eq_true]at h
  rcases List.mem_cons.1 hp with rfl|hp
  ·exact h.1
  ·exact ltL_get h.2 p hp
theorem RepV.lower {T T':List (Nat×Tok)}{U V U' V':Nat->Prop}{a b:Nat}(hT:∀k t,lkp T' k=some t->lkp T k=some t)(hU:∀i,i<a->U' i)(hV:∀i,i<b->V' i){v:Value}{p:PV}(r:RepV C T U V v p) :
  p.lt a b=true->RepV C T' U' V' v p:=by
 induction r with
 |frz h=>exact fun _=> .frz h
 |row h hk ht=>
  intro hl
  simp only[PV.lt,decide_eq_true_eq]at hl
  exact .row h (hV _ hl) (fun t h'=>ht t (hT _ t h'))
 |ptr h=>intro hl; simp only[PV.lt,decide_eq_true_eq]at hl; exact .ptr (hU _ hl)
 |ms h hc=>intro hl; simp only[PV.lt,decide_eq_true_eq]at hl; exact .ms (hU _ hl) hc
 |fp h=>exact fun _=> .fp h
 |agg hs h h1 ih=>intro hl; exact .agg hs (fun i v p hv hp=>ih i v p hv hp (ltL_get hl p (List.mem_of_getElem? hp))) h1
 |tup hs h ih=>intro hl; exact .tup hs (fun i v p hv hp=>ih i v p hv hp (ltL_get hl p (List.mem_of_getElem? hp)))
 |fn hs h ih=>intro hl; exact .fn hs (fun i v p hv hp=>ih i v p hv hp (ltL_get hl p (List.mem_of_getElem? hp)))
 |iface h ih=>intro hl; exact .iface (ih hl)
 |bm hs h ih=>intro hl; exact .bm hs (fun i v p hv hp=>ih i v p hv hp (ltL_get hl p (List.mem_of_getElem? hp)))
theorem lkp_mem {α:Type}:∀{l:List (Nat×α)}{i:Nat}{v:α},lkp l i=some v->(i,v)∈l
 | [],i,v,h=>by simp[lkp]at h
 |(k,u)::r,i,v,h=>by
  rw[lkp_cons]at h
  split at h
  ·obtain rfl:=Option.some.inj h
   rename_i e
   subst e
   simp
  ·exact List.mem_cons_of_mem _ (lkp_mem h)
abbrev Stt (own:Nat->Prop)(S0:Base)(w0:World)(N:Nat)(st:PS)(a:Act)(w:World):Prop:=StN own S0 w0 N (· < st.nx) (· < st.nt) st a w
theorem Stt.weak {st':PS}{L:Nat×Nat}(hL:(∀i,S0.U i->i<L.1)/\∀i,S0.V i->i<L.2)(h:Stt own S0 w0 N st a w)(k:Weak L st st'):Stt own S0 w0 N st' a w:=by
 obtain⟨h1,h2,C,R,E⟩:=h
 have hT:∀i t,lkp st'.toks i=some t->lkp st.toks i=some t:=fun i t h=>(k.toks _ (lkp_mem h)).1
 refine⟨h1,h2,C,⟨R.frame,R.stable,?_,?_,?_,?_,?_,?_,?_,R.snew,R.sold,⟨R.base.S,R.base.ρ,fun i t hi ht=>R.base.tok i t hi (hT i t ht),fun i hi=>Nat.lt_of_lt_of_le (hL.1 i hi) k.lx,fun i hi=>Nat.lt_of_lt_of_le (hL.2 i hi) k.lt⟩,R.glob⟩,?_⟩
 ·intro id T cs h
  obtain⟨g1,g2,g3⟩:=k.heap _ (lkp_mem h)
  obtain⟨q,g1,gq⟩:=bindO_elim g1
  cases q with
  |iter s pos=>cases gq
  |box T' cs'=>
   obtain⟨rfl,gl⟩:=gq
   obtain⟨vs,e1,e2,e3⟩:=R.box id T' cs' g1
   refine⟨vs,e1,e2.trans gl.len,fun i v p hv hp=>?_⟩
   have hi:i<cs'.length:=by rw[<-e2]; exact(Array.getElem?_eq_some_iff.1 hv).1
   have hq:=List.getElem?_eq_getElem hi
   exact⟨(e3 i v _ hv hq).1,((gl.get i _ p hq hp).rep (e3 i v _ hv hq).2).lower hT (fun _ h=>h) (fun _ h=>h) (ltL_get g3 p (List.mem_of_getElem? hp))⟩
 ·intro id s pos h
  obtain⟨q,g1,gq⟩:=bindO_elim (k.heap _ (lkp_mem h)).1
  cases q with
  |box t cs=>cases gq
  |iter s' pos'=>
   have e:PObj.iter s' pos'=PObj.iter s pos:=Option.some.inj gq
   rw[e]at g1
   exact R.iter id _ _ g1
 ·intro id o h
  obtain⟨g1,g2,g3⟩:=k.heap _ (lkp_mem h)
  obtain⟨q,g1,gq⟩:=bindO_elim g1
  exact⟨g2,(R.hown id q g1).2⟩
 ·intro i j oi oj g1 g2
  obtain⟨q,g1,_⟩:=bindO_elim (k.heap _ (lkp_mem g1)).1
  obtain⟨q',g2,_⟩:=bindO_elim (k.heap _ (lkp_mem g2)).1
  exact R.hinj i j q q' g1 g2
 ·intro i t h
  obtain⟨g1,g2⟩:=k.toks _ (lkp_mem h)
  exact⟨g2,(R.tok i t g1).2⟩
 ·intro i oi j t g1 g2
  obtain⟨q,g1,_⟩:=bindO_elim (k.heap _ (lkp_mem g1)).1
  exact R.tbox i q j t g1 (k.toks _ (lkp_mem g2)).1
 ·intro i j ti tj g1 g2
  exact R.tinj i j ti tj (k.toks _ (lkp_mem g1)).1 (k.toks _ (lkp_mem g2)).1
 ·intro t p h
  obtain⟨g1,g2⟩:=k.env _ (lkp_mem h)
  obtain⟨q,g1,gq⟩:=bindO_elim g1
  obtain⟨v,e1,e2⟩:=E t q g1
  exact⟨v,e1,(gq.rep e2).lower hT (fun _ h=>h) (fun _ h=>h) g2⟩
def liftN (own:Nat->Prop)(S0:Base)(w0:World)(N:Nat)(Q:Exit->PS->Prop):Exit->Act->World->Prop:=fun x a w=>∃st,Q x st/\Stt own S0 w0 N st a w
theorem guard_sound {U V:Nat->Prop}{ops:Array Oper}{g:Nat}{K:Option Bool->Prop}(h:StN own S0 w0 N U V st a w)(k:guardK ops g st K):∃t,yielded ops a.tmps g=t/\K t:=by
 obtain⟨h1,h2,C,R,E⟩:=h
 unfold guardK at k
 replace k:=bindO_elim k
 obtain⟨d,hd,k⟩:=k
 replace k:=bindO_elim k
 obtain⟨p,hp,k⟩:=k
 split at k
 ·rename_i t
  obtain⟨v,hv,r⟩:=E d _ hp
  obtain⟨rfl,_⟩:=rep_val r
  exact⟨some t,by simp[yielded,hd,hv],k⟩
 ·obtain⟨v,hv,r⟩:=E d _ hp
  obtain⟨vs,rfl,_⟩:=rep_tup r
  exact⟨none,by simp[yielded,hd,hv],k⟩
 ·exact k.elim
theorem StN.kill {U V:Nat->Prop}(h:StN own S0 w0 N U V st a w)(d:Option Tmp)(hf:fitsDst N d=true):StN own S0 w0 N U V (st.kill d) (a.put d undef) w:=by
 obtain⟨h1,h2,C,R,E⟩:=h
 exact StN.of_kill (d:=d) h1 h2 hf R E
theorem StN.wide {U V U' V':Nat->Prop}(h:StN own S0 w0 N U V st a w)(hU:∀i,U i->U' i)(hV:∀i,V i->V' i):StN own S0 w0 N U' V' st a w:=by
 obtain⟨h1,h2,C,R,E⟩:=h
 have X:Ext C C st.toks st.toks U V U' V':=⟨SLe.refl _,fun _ _=>rfl,fun k t _ h=>⟨t,h,Nat.le_refl _,rfl,fun _=>rfl⟩,hU,hV⟩
 exact⟨h1,h2,C,R.wide hU hV,E.ext X rfl⟩
theorem StN.nxnt {U V:Nat->Prop}(h:StN own S0 w0 N U V st a w)(x y:Nat):StN own S0 w0 N U V { st with nx:=x,nt:=y } a w:=by
 obtain⟨h1,h2,C,R,E⟩:=h
 exact⟨h1,h2,C,R.nxnt x y,E⟩
theorem Rel.env_ {U V:Nat->Prop}(R:Rel own S0 w0 C U V st w)(e:List (Nat×PV)):Rel own S0 w0 C U V { st with env:=e } w:=⟨R.frame,R.stable,R.box,R.iter,R.hown,R.hinj,R.tok,R.tbox,R.tinj,R.snew,R.sold,R.base,R.glob⟩
theorem apply_nx (d:Delta)(x:Option Tmp):(d.apply x st).nx=st.nx:=by
 unfold Delta.apply PS.kill
 cases d.res<;>simp only[put_nx]
theorem apply_nt (d:Delta)(x:Option Tmp):(d.apply x st).nt=st.nt:=by
 unfold Delta.apply PS.kill
 cases d.res<;>simp only[put_nt]
theorem stepN0_keep {o:Oper}{id tk:Nat}{K:PS->Prop}(h:stepN0 P o st id tk K):stepN0 P o st id tk (fun s=>K s/\s.nx=st.nx/\s.nt=st.nt):=
 stepD_det.mono (fun d hd=>⟨hd,apply_nx d _,apply_nt d _⟩) h
theorem callP_of {dr:Bool}{g:FuncId}{ags:List PV}{id tk:Nat}{K:PV->PS->Prop}(h:CallOk dr P g ags st id tk K):CallP P g ags (fun p=>K p st)∨(dr=false/\∃Q,OkI P g ags { st with nx:=id,nt:=tk } Q/\∀r st',Q r st'->K r { st' with env:=st.env }):=by
 cases h with
 |pure as' r hf ok k=>exact .inl (.pure as' r hf ok k)
 |ext vs r ha hr ho k=>exact .inl (.ext vs r ha hr ho k)
 |own hdr Q ok k=>exact .inr ⟨hdr,Q,ok,k⟩
theorem stepN_true {o:Oper}{id tk:Nat}{K:PS->Prop}(h:stepN true P o st id tk K):stepN0 P o st id tk K:=by
 unfold stepN at h
 split at h
 ·rename_i c ho
  split at h
  ·rename_i f hc
   unfold stepN0 stepD
   rw[ho]
   simp only[hc,callK]
   replace h:=bindO_elim h
   obtain⟨pf,hpf,h⟩:=h
   rw[hpf,bindO_some]
   split at h
   ·replace h:=bindO_elim h
    obtain⟨ags,has,h⟩:=h
    simp only
    rw[has,bindO_some]
    rcases callP_of h with h|⟨h,_⟩
    ·exact h
    ·cases h
   ·exfalso
    replace h:=bindO_elim h
    obtain⟨ags,_,h,_⟩:=h
    cases h
   ·exact h.elim
  ·exfalso
   replace h:=bindO_elim h
   obtain⟨p,_,h⟩:=h
   split at h
   ·replace h:=bindO_elim h
    obtain⟨ags,_,h,_⟩:=h
    cases h
   ·exact h
  ·exact h
 ·exact h
theorem dops_dops0 {ops:Array Oper}{nx0 nt0:Nat}{K:PS->Prop}:∀(l:List Oper)(i:Nat)(st:PS),dops P ops nx0 nt0 i l st K->dops0 P ops nx0 nt0 i l st K
 | [],i,st,h=>h
 |o::r,i,st,h=>by
  simp only[dops]at h
  simp only[dops0]
  cases hg:o.guard with
  |none=>rw[hg]at h; exact stepD_det.mono (fun d hd=>dops_dops0 r _ _ hd) (stepN_true h)
  |some gb=>
   obtain⟨g,b⟩:=gb
   rw[hg]at h
   simp only at h ⊢
   unfold guardK at h ⊢
   replace h:=bindO_elim h
   obtain⟨d,hd,h⟩:=h
   rw[hd,bindO_some]
   replace h:=bindO_elim h
   obtain⟨p,hp,h⟩:=h
   rw[hp,bindO_some]
   split at h
   ·exact⟨fun e=>stepD_det.mono (fun d hd=>dops_dops0 r _ _ hd) (stepN_true (h.1 e)),fun e=>dops_dops0 r _ _ (h.2 e)⟩
   ·exact⟨fun e=>stepD_det.mono (fun d hd=>dops_dops0 r _ _ hd) (stepN_true (h.1 e)),fun e=>dops_dops0 r _ _ (h.2 e)⟩
   ·exact h.elim
theorem stepS_sound {o:Oper}{i:Nat}{K:PS->Prop}(E:Env C (· < st.nx+i) (· < st.nt+i) st a)(R:Rel own S0 w0 C (· < st.nx+i) (· < st.nt+i) st w)(hd:a.defers=[])(hs:a.tmps.size=N)(hf:fitsDst N o.dst=true)
  (h:stepN false P o st (st.nx+i) (st.nt+i) K) {Q:Exit->Act->World->Prop}:Oper.wp P o a w (fun a' w'=>∃st',K st'/\StN own S0 w0 N (· < st'.nx+(i+1)) (· < st'.nt+(i+1)) st' a' w') Q:=by
 have plain:∀{K:PS->Prop},stepN0 P o st (st.nx+i) (st.nt+i) K->Oper.wp P o a w (fun a' w'=>∃st',K st'/\StN own S0 w0 N (· < st'.nx+(i+1)) (· < st'.nt+(i+1)) st' a' w') Q:=fun h=>by
  refine Oper.wp_mono ?_ (stepN_sound (U':=(· < st.nx+(i+1))) (V':=(· < st.nt+(i+1))) E R hd hs hf (fun j hj=>by omega) (fun j hj=>by omega) (fun _=>⟨Nat.lt_irrefl _,by omega⟩) (fun _=>⟨Nat.lt_irrefl _,by omega⟩) (stepN0_keep h))
  rintro a' w' ⟨st',⟨hk,e1,e2⟩,hS⟩
  exact⟨st',hk,by rw[e1,e2]; exact hS⟩
 unfold stepN at h
 split at h
 ·rename_i c ho
  split at h
  ·rename_i f hc
   have h0:=h
   replace h:=bindO_elim h
   obtain⟨pf,hpf,h⟩:=h
   split at h
   ·rename_i g caps
    replace h:=bindO_elim h
    obtain⟨ags,has,h⟩:=h
    rcases callP_of h with h|⟨_,QI,ok,k⟩
    ·refine plain ?_
     unfold stepN0 stepD
     rw[ho]
     simp only[hc,callK]
     rw[hpf,bindO_some]
     simp only
     rw[has,bindO_some]
     exact h
    ·obtain⟨vs,ef,hcs,hcr⟩:=rep_fn (ev_rep E hpf)
     obtain⟨ha1,ha2⟩:=evAll_rep E _ _ has
     have hall:∀(i':Nat) (v:Value) (p:PV),(c.args.map a.eval++vs)[i']? = some v->(ags++caps)[i']? = some p->RepV C st.toks (· < st.nx+i) (· < st.nt+i) v p:=by
      intro i' v p hv hp
      have hal:(c.args.map a.eval).size=ags.length:=by simpa using ha1
      by_cases hi:i'<ags.length
      ·rw[List.getElem?_append_left hi]at hp
       rw[Array.getElem?_append_left (by omega)]at hv
       exact ha2 i' v p (by simpa using hv) hp
      ·rw[List.getElem?_append_right (by omega)]at hp
       rw[Array.getElem?_append_right (by omega)]at hv
       exact hcr _ v p (by rw[hal]at hv; exact hv) hp
     have hsz:(c.args.map a.eval++vs).size=(ags++caps).length:=by
      have:c.args.size=ags.length:=by simpa using ha1
      simp[this,hcs]
     obtain⟨hent,ok⟩:=ok
     have hrun:(execOp a.eval o).run P w = .ok (.enter g (c.args.map a.eval++vs)) w:=by
      have hcf:=run_callFunc hent (c.args.map a.eval++vs) w
      simp only[execOp,ho,Sem.run_bind,resolve,hc,ef,Deferred.ofValue,Sem.run_pure,Result.andThen_ok,invoke]
      simpa using hcf
     unfold Oper.wp
     rw[hrun,Oper.upon_enter]
     refine(ok own S0 w0 w C _ (R.nxnt _ _) hsz hall).mono ?_
     rintro e w' ⟨r,st2,v,C',hQ,rfl,R',X,hr⟩
     have X2:Ext C C' st.toks st2.toks (· < st.nx+i) (· < st.nt+i) (· < st2.nx+(i+1)) (· < st2.nt+(i+1)):=(X.wider (fun j hj=>by omega)).wideU (fun j hj=>by omega)
     have R2:=(R'.wide (U':=(· < st2.nx+(i+1))) (V':=(· < st2.nt+(i+1))) (fun j hj=>by omega) (fun j hj=>by omega)).env_ st.env
     have hr2:RepV C' st2.toks (· < st2.nx+(i+1)) (· < st2.nt+(i+1)) v r:=hr.ext ⟨SLe.refl _,fun _ _=>rfl,fun k t _ h=>⟨t,h,Nat.le_refl _,rfl,fun _=>rfl⟩,fun j hj=>by omega,fun j hj=>by omega⟩
     have:=StN.of_put (d:=o.dst) (st':={ st2 with env:=st.env }) hd hs hf R2 (E.ext X2 rfl) hr2
     exact⟨_,k r st2 hQ,by rw[put_nx,put_nt]; exact this⟩
   ·rename_i g fs
    replace h:=bindO_elim h
    obtain⟨ags,has,_,h⟩:=h
    cases h with
    |mk QI ok k=>
     obtain⟨vs,ef,hcs,hcr⟩:=rep_bm (ev_rep E hpf)
     obtain⟨ha1,ha2⟩:=evAll_rep E _ _ has
     have hall:∀(i':Nat) (v:Value) (p:PV),(vs++c.args.map a.eval)[i']? = some v->(fs++ags)[i']? = some p->RepV C st.toks (· < st.nx+i) (· < st.nt+i) v p:=by
      intro i' v p hv hp
      by_cases hi:i'<fs.length
      ·rw[List.getElem?_append_left hi]at hp
       rw[Array.getElem?_append_left (by omega)]at hv
       exact hcr _ v p hv hp
      ·rw[List.getElem?_append_right (by omega)]at hp
       rw[Array.getElem?_append_right (by omega)]at hv
       exact ha2 _ v p (by rw[hcs]at hv; simpa using hv) hp
     have hsz:(vs++c.args.map a.eval).size=(fs++ags).length:=by
      have:c.args.size=ags.length:=by simpa using ha1
      simp[this,hcs]
     obtain⟨hent,ok⟩:=ok
     have hrun:(execOp a.eval o).run P w = .ok (.enter g (vs++c.args.map a.eval)) w:=by
      have hcf:=run_callFunc hent (vs++c.args.map a.eval) w
      simp only[execOp,ho,Sem.run_bind,resolve,hc,ef,Deferred.ofValue,Sem.run_pure,Result.andThen_ok,invoke]
      simpa using hcf
     unfold Oper.wp
     rw[hrun,Oper.upon_enter]
     refine(ok own S0 w0 w C _ (R.nxnt _ _) hsz hall).mono ?_
     rintro e w' ⟨r,st2,v,C',hQ,rfl,R',X,hr⟩
     have X2:Ext C C' st.toks st2.toks (· < st.nx+i) (· < st.nt+i) (· < st2.nx+(i+1)) (· < st2.nt+(i+1)):=(X.wider (fun j hj=>by omega)).wideU (fun j hj=>by omega)
     have R2:=(R'.wide (U':=(· < st2.nx+(i+1))) (V':=(· < st2.nt+(i+1))) (fun j hj=>by omega) (fun j hj=>by omega)).env_ st.env
     have hr2:RepV C' st2.toks (· < st2.nx+(i+1)) (· < st2.nt+(i+1)) v r:=hr.ext ⟨SLe.refl _,fun _ _=>rfl,fun k t _ h=>⟨t,h,Nat.le_refl _,rfl,fun _=>rfl⟩,fun j hj=>by omega,fun j hj=>by omega⟩
     have:=StN.of_put (d:=o.dst) (st':={ st2 with env:=st.env }) hd hs hf R2 (E.ext X2 rfl) hr2
     exact⟨_,k r st2 hQ,by rw[put_nx,put_nt]; exact this⟩
   ·exact h.elim
  ·rename_i x m hc
   replace h:=bindO_elim h
   obtain⟨pf,hpf,h⟩:=h
   split at h
   ·rename_i T id off
    replace h:=bindO_elim h
    obtain⟨ags,has,_,h⟩:=h
    cases h with
    |mk g δ QI hdi ok k=>
    obtain⟨u,ef,hu⟩:=rep_iface (ev_rep E hpf)
    obtain⟨eu,hid⟩:=rep_ptr hu
    subst eu
    obtain⟨ha1,ha2⟩:=evAll_rep E _ _ has
    have hall:∀(i':Nat) (v:Value) (p:PV),(#[Value.pointer (some ⟨C.ρ id,off+δ,none⟩)]++c.args.map a.eval)[i']? = some v->(.ptr id (off+δ)::ags)[i']? = some p->RepV C st.toks (· < st.nx+i) (· < st.nt+i) v p:=by
     intro i' v p hv hp
     cases i' with
     |zero=>
      have hp':PV.ptr id (off+δ)=p:=Option.some.inj hp
      rw[Array.getElem?_append_left (by simp)]at hv
      have hv':Value.pointer (some ⟨C.ρ id,off+δ,none⟩)=v:=Option.some.inj hv
      rw[<-hp',<-hv']
      exact .ptr hid
     |succ j=>
      have hp':ags[j]? = some p:=by simpa using hp
      have hv':(c.args.map a.eval)[j]? = some v:=by
       rw[Array.getElem?_append_right (by simp)]at hv
       simpa using hv
      exact ha2 j v p (by simpa using hv') hp'
    have hsz:(#[Value.pointer (some ⟨C.ρ id,off+δ,none⟩)]++c.args.map a.eval).size=(PV.ptr id (off+δ)::ags).length:=by
     have:c.args.size=ags.length:=by simpa using ha1
     simp[this]; omega
    obtain⟨hent,ok⟩:=ok
    have hrun:(execOp a.eval o).run P w = .ok (.enter g (#[Value.pointer (some ⟨C.ρ id,off+δ,none⟩)]++c.args.map a.eval)) w:=by
     have hcf:=run_callFunc hent (#[Value.pointer (some ⟨C.ρ id,off+δ,none⟩)]++c.args.map a.eval) w
     have hx:∀(u:Value) (A:Array Value),(#[u]++A)[0]? = some u:=fun u A=>by rw[Array.getElem?_append_left (by simp)]; rfl
     have hr:∀(u:Value) (A:Array Value),(#[u]++A).extract 1 (#[u]++A).size=A:=fun u A=>by apply Array.toList_inj.1; simp
     have hme:=hdi (C.ρ id) off w
     simp only[execOp,ho,Sem.run_bind,resolve,hc,Sem.run_pure,Result.andThen_ok,invoke,ef,hx,hr,callMethod,run_program,hme]
     exact hcf
    unfold Oper.wp
    rw[hrun,Oper.upon_enter]
    refine(ok own S0 w0 w C _ (R.nxnt _ _) hsz hall).mono ?_
    rintro e w' ⟨r,st2,v,C',hQ,rfl,R',X,hr⟩
    have X2:Ext C C' st.toks st2.toks (· < st.nx+i) (· < st.nt+i) (· < st2.nx+(i+1)) (· < st2.nt+(i+1)):=(X.wider (fun j hj=>by omega)).wideU (fun j hj=>by omega)
    have R2:=(R'.wide (U':=(· < st2.nx+(i+1))) (V':=(· < st2.nt+(i+1))) (fun j hj=>by omega) (fun j hj=>by omega)).env_ st.env
    have hr2:RepV C' st2.toks (· < st2.nx+(i+1)) (· < st2.nt+(i+1)) v r:=hr.ext ⟨SLe.refl _,fun _ _=>rfl,fun k t _ h=>⟨t,h,Nat.le_refl _,rfl,fun _=>rfl⟩,fun j hj=>by omega,fun j hj=>by omega⟩
    have:=StN.of_put (d:=o.dst) (st':={ st2 with env:=st.env }) hd hs hf R2 (E.ext X2 rfl) hr2
    exact⟨_,k r st2 hQ,by rw[put_nx,put_nt]; exact this⟩
   ·exact h.elim
  ·exact plain h
 ·exact plain h
theorem dopsS_sound {ops:Array Oper}{Q:Exit->PS->Prop}:∀(l:List Oper)(i:Nat)(st:PS)(a:Act)(w:World),(l.all fun o=>fitsDst N o.dst)=true->dopsS P ops i l st (Q .normal) ->
  StN own S0 w0 N (· < st.nx+i) (· < st.nt+i) st a w->wpList P ops (liftN own S0 w0 N Q) l a w
 | [],i,st,a,w,_,k,h=>wpList_nil ⟨_,k,h.nxnt (st.nx+i) (st.nt+i)⟩
 |o::r,i,st,a,w,hf,k,h=>by
  simp only[List.all_cons,Bool.and_eq_true]at hf
  refine wpList_step (fun K hK=>?_)
  simp only[dopsS]at k
  have step:stepN false P o st (st.nx+i) (st.nt+i) (fun st'=>dopsS P ops (i+1) r st' (Q .normal))->o.wp P a w K (liftN own S0 w0 N Q):=fun k=>by
   obtain⟨h1,h2,C,R,E⟩:=h
   exact Oper.wp_mono (fun a' w' ⟨st',hk,hs⟩=>hK a' w' (dopsS_sound r (i+1) st' a' w' hf.2 hk hs)) (stepS_sound E R h1 h2 hf.1 k)
  have skip:dopsS P ops (i+1) r (st.kill o.dst) (Q .normal)->K (a.put o.dst undef) w:=fun k=>by
   refine hK _ _ (dopsS_sound r (i+1) _ _ w hf.2 k ?_)
   have:=(h.kill o.dst hf.1).wide (U':=(· < st.nx+(i+1))) (V':=(· < st.nt+(i+1))) (fun j hj=>by omega) (fun j hj=>by omega)
   unfold PS.kill
   rw[put_nx,put_nt]
   exact this
  cases hg:o.guard with
  |none=>
   rw[hg]at k
   simp only[Region.wanted,hg,if_true]
   exact step k
  |some gb=>
   obtain⟨g,b⟩:=gb
   rw[hg]at k
   simp only at k
   obtain⟨t,ht,k1,k2⟩:=guard_sound h k
   by_cases htb:t=some b
   ·have:Region.wanted o (yielded ops a.tmps)=true:=by simp[Region.wanted,hg,ht,htb]
    rw[if_pos this]
    exact step (k1 htb)
   ·have:Region.wanted o (yielded ops a.tmps)=false:=by simp[Region.wanted,hg,ht,htb]
    rw[this]
    simp only[Bool.false_eq_true,if_false]
    exact skip (k2 htb)
theorem dopsS_app {ops:Array Oper}{X:Exit->Act->World->Prop}{K:PS->Prop}:∀(l rest:List Oper)(i:Nat)(st:PS)(a:Act)(w:World),(l.all fun o=>fitsDst N o.dst)=true->dopsS P ops i l st K ->
  StN own S0 w0 N (· < st.nx+i) (· < st.nt+i) st a w->(∀st' a' w',K st'->StN own S0 w0 N (· < st'.nx) (· < st'.nt) st' a' w'->wpList P ops X rest a' w')->wpList P ops X (l++rest) a w
 | [],rest,i,st,a,w,_,k,h,kk=>kk _ a w k (h.nxnt (st.nx+i) (st.nt+i))
 |o::r,rest,i,st,a,w,hf,k,h,kk=>by
  simp only[List.all_cons,Bool.and_eq_true]at hf
  rw[List.cons_append]
  refine wpList_step (fun K' hK=>?_)
  simp only[dopsS]at k
  have step:stepN false P o st (st.nx+i) (st.nt+i) (fun st'=>dopsS P ops (i+1) r st' K)->o.wp P a w K' X:=fun k=>by
   obtain⟨h1,h2,C,R,E⟩:=h
   exact Oper.wp_mono (fun a' w' ⟨st',hk,hs⟩=>hK a' w' (dopsS_app r rest (i+1) st' a' w' hf.2 hk hs kk)) (stepS_sound E R h1 h2 hf.1 k)
  have skip:dopsS P ops (i+1) r (st.kill o.dst) K->K' (a.put o.dst undef) w:=fun k=>by
   refine hK _ _ (dopsS_app r rest (i+1) _ _ w hf.2 k ?_ kk)
   have:=(h.kill o.dst hf.1).wide (U':=(· < st.nx+(i+1))) (V':=(· < st.nt+(i+1))) (fun j hj=>by omega) (fun j hj=>by omega)
   unfold PS.kill
   rw[put_nx,put_nt]
   exact this
  cases hg:o.guard with
  |none=>
   rw[hg]at k
   simp only[Region.wanted,hg,if_true]
   exact step k
  |some gb=>
   obtain⟨g,b⟩:=gb
   rw[hg]at k
   simp only at k
   obtain⟨t,ht,k1,k2⟩:=guard_sound h k
   by_cases htb:t=some b
   ·have:Region.wanted o (yielded ops a.tmps)=true:=by simp[Region.wanted,hg,ht,htb]
    rw[if_pos this]
    exact step (k1 htb)
   ·have:Region.wanted o (yielded ops a.tmps)=false:=by simp[Region.wanted,hg,ht,htb]
    rw[this]
    simp only[Bool.false_eq_true,if_false]
    exact skip (k2 htb)
theorem dopsX_sound {ops:Array Oper}{Q:Exit->PS->Prop}:∀(l:List Oper)(st:PS)(a:Act)(w:World),(∀o∈l,fitsDst N o.dst=true)->dopsX P ops l st (Q .normal)->StN own S0 w0 N (· < st.nx) (· < st.nt) st a w->wpList P ops (liftN own S0 w0 N Q) l a w
 | [],st,a,w,_,h,hs=>wpList_nil ⟨st,h,hs⟩
 |o::r,st,a,w,hf,h,hs=>by
  rcases h with h|⟨hg,h⟩
  ·refine dopsS_app [o] r 0 st a w (by simp[hf o (by simp)]) h hs (fun s a1 w1 k1 h1=>?_)
   exact dopsX_sound r s a1 w1 (fun x hx=>hf x (by simp[hx])) k1 h1
  ·refine wpList_step (fun K' hK=>?_)
   have:Region.wanted o (yielded ops a.tmps)=true:=by simp[Region.wanted,hg]
   rw[if_pos this]
   refine Oper.wp_mono ?_ (h own S0 w0 N a w _ (hf o (by simp)) hs)
   rintro a2 w2 ⟨s2,k2,h2⟩
   exact hK a2 w2 (dopsX_sound r s2 a2 w2 (fun x hx=>hf x (by simp[hx])) k2 h2)
theorem dopsM_sound {ops:Array Oper}{Q:Exit->PS->Prop}(k:Nat)(st:PS)(a:Act)(w:World)(hf:(ops.toList.all fun o=>fitsDst N o.dst)=true)(h:dopsM P ops ops.toList k st (Q .normal))(hs:StN own S0 w0 N (· < st.nx) (· < st.nt) st a w) :
  wpList P ops (liftN own S0 w0 N Q) ops.toList a w:=by
 rw[List.all_eq_true]at hf
 have e:ops.toList=ops.toList.take k++ops.toList.drop k:=(List.take_append_drop k _).symm
 generalize hl:ops.toList=l at *
 rw[e]
 refine dopsS_app (l.take k) (l.drop k) 0 st a w (by rw[List.all_eq_true]; exact fun x hx=>hf x (List.mem_of_mem_take hx)) h hs ?_
 intro s a1 w1 hk h1
 exact dopsX_sound (l.drop k) s a1 w1 (fun x hx=>hf x (List.mem_of_mem_drop hx)) hk h1
end
end Go.Pw

end
section
namespace Go.Pw
open Go Go.RowKit
set_option linter.unusedVariables false
set_option linter.unusedSimpArgs false
section
variable {P:Program} {st st':PS}
structure Agree (l:List Operand) (mem:Prop) (toks:Prop) (st st':PS):Prop where
 env:∀x∈l,st'.ev x=st.ev x
 ptr:mem->∀x∈l,∀id off,st.ev x=some (.ptr id off)->∀ob,lkp st.heap id=some ob->lkp st'.heap id=some ob
 ms:mem->∀x∈l,∀id lo n c,st.ev x=some (.ms id lo n c)->∀ob,lkp st.heap id=some ob->lkp st'.heap id=some ob
 tok:toks->∀x∈l,∀k xs,st.ev x=some (.row k xs)->∀t,lkp st.toks k=some t->lkp st'.toks k=some t
theorem evParts_congr:∀(l:List (Nat×Operand)),(∀e∈l,st'.ev e.2=st.ev e.2)->evParts st' l=evParts st l
 | [],_=>rfl
 |(i,x)::r,h=>by
  simp only[evParts]
  rw[h (i,x) (by simp),evParts_congr r (fun e he=>h e (by simp[he]))]
theorem evAll_congr:∀(l:List Operand),(∀x∈l,st'.ev x=st.ev x)->evAll st' l=evAll st l
 | [],_=>rfl
 |x::r,h=>by
  simp only[evAll]
  rw[h x (by simp),evAll_congr r (fun e he=>h e (by simp[he]))]
theorem bounds_congr {lo hi:Option Operand}{len:Nat}{K:Nat->Nat->Prop}(h1:∀x,lo=some x->st'.ev x=st.ev x)(h2:∀x,hi=some x->st'.ev x=st.ev x):boundsK st' lo hi len K=boundsK st lo hi len K:=by
 unfold boundsK
 cases lo<;>cases hi<;>simp only
 ·rw[h2 _ rfl]
 ·rw[h1 _ rfl]
 ·rw[h1 _ rfl,h2 _ rfl]
theorem valK_congr {op:Op}{K:PV->Prop}{mem toks:Prop}(A:Agree op.operands.toList mem toks st st')(hm:(∃t x,op = .load t x)->mem)(h:valK P st op K):valK P st' op K:=by
 have ev:∀x,x∈op.operands.toList->st'.ev x=st.ev x:=A.env
 unfold valK at h ⊢
 split at h
 ·rename_i x; rw[ev x (by simp[Op.operands])]; exact h
 ·rename_i x; rw[ev x (by simp[Op.operands])]; exact h
 ·rename_i c a b
  rw[ev c (by simp[Op.operands]),ev a (by simp[Op.operands]),ev b (by simp[Op.operands])]
  exact h
 ·rename_i t x
  have hx:=ev x (by simp[Op.operands])
  unfold loadK at h ⊢
  rw[hx]
  replace h:=bindO_elim h
  obtain⟨p,hp,h⟩:=h
  rw[hp,bindO_some]
  split at h
  ·rename_i id off
   replace h:=bindO_elim h
   obtain⟨ob,hob,h⟩:=h
   try simp only
   rw[A.ptr (hm ⟨t,x,rfl⟩) x (by simp[Op.operands]) id off hp ob hob]
   exact h
  ·exact h
  ·exact h.elim
 ·rename_i t parts
  have hp:evParts st' parts.toList=evParts st parts.toList:=evParts_congr _ (fun e he=>ev e.2 (by simp only[Op.operands]; exact List.mem_map.2 ⟨e,he,rfl⟩))
  unfold buildK at h ⊢
  rw[hp]
  exact h
 ·rename_i op t x y _
  unfold binK at h ⊢
  rw[ev x (by simp[Op.operands]),ev y (by simp[Op.operands])]
  exact h
 ·rename_i op _ x; rw[ev x (by simp[Op.operands])]; exact h
 ·rename_i s d x; rw[ev x (by simp[Op.operands])]; exact h
 ·rename_i t x lo hi
  have hb:∀(len:Nat) (K:Nat->Nat->Prop),boundsK st' lo hi len K=boundsK st lo hi len K:=fun len K=>
   bounds_congr (fun y hy=>ev y (by simp[Op.operands,hy])) (fun y hy=>ev y (by simp[Op.operands,hy]))
  unfold sliceK at h ⊢
  rw[ev x (by simp[Op.operands])]
  simp only[hb]
  exact h
 ·rename_i s x f
  unfold fieldAddrK at h ⊢
  rw[ev x (by simp[Op.operands])]
  exact h
 ·rename_i s x f
  unfold fieldK at h ⊢
  rw[ev x (by simp[Op.operands])]
  exact h
 ·rename_i t x i
  unfold indexAddrK at h ⊢
  rw[ev x (by simp[Op.operands]),ev i (by simp[Op.operands])]
  exact h
 ·rename_i t x i
  unfold indexK at h ⊢
  rw[ev x (by simp[Op.operands]),ev i (by simp[Op.operands])]
  exact h
 ·rename_i x i; rw[ev x (by simp[Op.operands])]; exact h
 ·rename_i t x; rw[ev x (by simp[Op.operands])]; exact h
 ·rename_i f first caps
  show match first.toList with
   | []=>bindO (evAll st' caps.toList) fun cs=>K (.fn f cs)
   |x::r=>caps.toList=[]/\bindO (evAll st' (x::r)) fun cs=>K (.bm f cs)
  have e1:=evAll_congr (st:=st) (st':=st') caps.toList (fun y hy=>ev y (by simp only[Op.operands,Array.toList_append]; exact List.mem_append.2 (.inr hy)))
  have e2:=evAll_congr (st:=st) (st':=st') first.toList (fun y hy=>ev y (by simp only[Op.operands,Array.toList_append]; exact List.mem_append.2 (.inl hy)))
  rw[e1]
  generalize first.toList=fl at *
  cases fl with
  |nil=>exact h
  |cons x r=>
   simp only at h e2 ⊢
   rw[e2]
   exact h
 ·rename_i x; rw[ev x (by simp[Op.operands])]; exact h
 ·rename_i c
  have ev':∀x∈c.args.toList,st'.ev x=st.ev x:=fun x hx=>ev x (by simp only[Op.operands,Call.operands,Array.toList_append]; exact List.mem_append.2 (.inr hx))
  unfold callV at h ⊢
  split at h
  ·split at h
   ·rename_i x t hx ht
    unfold lenK at h ⊢
    rw[ev' x (by rw[hx]; simp)]
    exact h
   ·exact h.elim
  ·split at h
   ·rename_i x y hx
    rw[ev' x (by rw[hx]; simp),ev' y (by rw[hx]; simp)]
    exact h
   ·exact h.elim
  ·split at h
   ·rename_i x y hx
    rw[ev' x (by rw[hx]; simp),ev' y (by rw[hx]; simp)]
    exact h
   ·exact h.elim
  ·exact h.elim
 ·exact h.elim
theorem srcXs_congr {sz:Nat}{p:PV}{ys:List (List PV)}(h:srcXs st sz p=some ys)(hm:∀id lo n c,p = .ms id lo n c->∀ob,lkp st.heap id=some ob->lkp st'.heap id=some ob):srcXs st' sz p=some ys:=by
 unfold srcXs at h ⊢
 split at h
 ·exact h
 ·exact h
 ·exact h
 ·rename_i id lo n c
  try simp only
  split at h
  ·rename_i T cs ho
   rw[hm id lo n c rfl _ ho]
   exact h
  ·cases h
 ·cases h
theorem appTail_congr {tk0 sz by_:Nat}{e:TypeId}{d:PV}{ys:List (List PV)}{K:Delta->Prop}(htok:∀k xs,d = .row k xs->∀t,lkp st.toks k=some t->lkp st'.toks k=some t)(hms:∀id lo n c,d = .ms id lo n c->∀ob,lkp st.heap id=some ob->lkp st'.heap id=some ob)(h:appTail st tk0 e sz by_ d ys K):appTail st' tk0 e sz by_ d ys K:=by
 unfold appTail at h ⊢
 cases ys with
 |nil=>exact h
 |cons y0 r=>
  try simp only at h ⊢
  split at h
  ·exact h
  ·rename_i k xs
   try simp only
   replace h:=bindO_elim h
   obtain⟨t1,ht1,h⟩:=h
   rw[htok k xs rfl t1 ht1]
   exact h
  ·rename_i id lo n cap
   obtain⟨h3,h⟩:=h
   refine⟨h3,?_⟩
   replace h:=bindO_elim h
   obtain⟨xs0,hxs0,h⟩:=h
   rw[srcXs_congr (st':=st') hxs0 (fun id lo n c' e ob ho=>hms id lo n c' e ob ho),bindO_some]
   exact h
  ·exact h.elim
theorem append_congr {c:Call}{tk:Nat}{K:Delta->Prop}(A:Agree c.args.toList True True st st')(h:appendK P st tk c K):appendK P st' tk c K:=by
 unfold appendK at h ⊢
 split at h
 ·rename_i x y t t' hx ht
  split at h
  ·rename_i e hu
   replace h:=bindO_elim h
   obtain⟨sz,hsz,h⟩:=h
   replace h:=bindO_elim h
   obtain⟨by_,hby,h⟩:=h
   replace h:=bindO_elim h
   obtain⟨z,hz,h1,h2,h⟩:=h
   replace h:=bindO_elim h
   obtain⟨d,hd,h⟩:=h
   replace h:=bindO_elim h
   obtain⟨s,hs,h⟩:=h
   have ex:=A.env x (by rw[hx]; simp)
   have ey:=A.env y (by rw[hx]; simp)
   have hT:∀k xs,d = .row k xs->∀t,lkp st.toks k=some t->lkp st'.toks k=some t:=fun k xs hr t1 ht1=>A.tok trivial x (by rw[hx]; simp) k xs (by rw[hd,hr]) t1 ht1
   have hM:∀id lo n c,d = .ms id lo n c->∀ob,lkp st.heap id=some ob->lkp st'.heap id=some ob:=fun id lo n c' hr ob ho=>A.ms trivial x (by rw[hx]; simp) id lo n c' (by rw[hd,hr]) ob ho
   rw[hsz,bindO_some,hby,bindO_some,hz,bindO_some]
   refine⟨h1,h2,?_⟩
   rw[ex,hd,bindO_some,ey,hs,bindO_some]
   split at h
   ·obtain⟨h3,h4,h5,h⟩:=h
    exact⟨h3,h4,h5,appTail_congr hT hM h⟩
   ·obtain⟨h3,h⟩:=h
    replace h:=bindO_elim h
    obtain⟨ys0,hys0,h⟩:=h
    replace h:=bindO_elim h
    obtain⟨ys,hys,hl,h⟩:=h
    refine⟨h3,?_⟩
    rw[srcXs_congr (st':=st') hys0 (fun id lo n c' e ob ho=>A.ms trivial y (by rw[hx]; simp) id lo n c' (by rw[hs,e]) ob ho),bindO_some,hys,bindO_some]
    exact⟨hl,appTail_congr hT hM h⟩
  ·exact h.elim
 ·exact h.elim
theorem stepD_congr {o:Oper}{id tk:Nat}{K:Delta->Prop}(A:Agree o.op.operands.toList (kindOf o=1∨kindOf o=3∨kindOf o=4) (kindOf o=4) st st')(h:stepD P o st id tk K):stepD P o st' id tk K:=by
 have ev:∀x,x∈o.op.operands.toList->st'.ev x=st.ev x:=A.env
 unfold stepD at h ⊢
 split at h
 ·exact h
 ·rename_i T x ho
  rw[ev x (by simp[ho,Op.operands])]
  exact h
 ·rename_i t x y ho
  rw[ev x (by simp[ho,Op.operands]),ev y (by simp[ho,Op.operands])]
  replace h:=bindO_elim h
  obtain⟨p,hp,h⟩:=h
  replace h:=bindO_elim h
  obtain⟨q,hq,h⟩:=h
  rw[hp,bindO_some,hq,bindO_some]
  split at h
  ·rename_i id1 off
   replace h:=bindO_elim h
   obtain⟨ob,hob,h⟩:=h
   try simp only
   rw[A.ptr (.inr (.inl (by simp[kindOf,ho]))) x (by simp[ho,Op.operands]) id1 off hp ob hob]
   exact h
  ·exact h.elim
 ·rename_i t len parts ho
  rw[evParts_congr (st':=st') (st:=st) parts.toList (fun e he=>ev e.2 (by simp only[ho,Op.operands]; exact List.mem_map.2 ⟨e,he,rfl⟩))]
  exact h
 ·rename_i t l c ho
  rw[ev l (by simp[ho,Op.operands]),ev c (by simp[ho,Op.operands])]
  exact h
 ·rename_i t x ho
  rw[ev x (by simp[ho,Op.operands])]
  exact h
 ·rename_i x ho
  rw[ev x (by simp[ho,Op.operands])]
  replace h:=bindO_elim h
  obtain⟨p,hp,h⟩:=h
  rw[hp,bindO_some]
  split at h
  ·rename_i id1
   replace h:=bindO_elim h
   obtain⟨ob,hob,h⟩:=h
   try simp only
   rw[A.ptr (.inr (.inl (by simp[kindOf,ho]))) x (by simp[ho,Op.operands]) id1 0 hp ob hob]
   exact h
  ·exact h.elim
 ·rename_i c ho
  have hargs:∀x∈c.args.toList,x∈o.op.operands.toList:=fun x hx=>by simp only[ho,Op.operands,Call.operands,Array.toList_append]; exact List.mem_append.2 (.inr hx)
  split at h
  ·rename_i hc
   have hk:kindOf o=4:=by simp[kindOf,ho,hc]
   exact append_congr ⟨fun x hx=>ev x (hargs x hx),fun _ x hx=>A.ptr (.inr (.inr hk)) x (hargs x hx),fun _ x hx=>A.ms (.inr (.inr hk)) x (hargs x hx),fun _ x hx=>A.tok hk x (hargs x hx)⟩ h
  ·have A':Agree (Op.call c).operands.toList True True st st->True:=fun _=>trivial
   have hh:valK P st (.call c) (fun p=>K (.val p)):=h
   have:=valK_congr (P:=P) (st:=st) (st':=st') (op:= .call c) (mem:=False) (toks:=False) ⟨fun x hx=>ev x (by rw[ho]; exact hx),fun f=>f.elim,fun f=>f.elim,fun f=>f.elim⟩ (fun ⟨t,x,e⟩=>by cases e) hh
   exact this
  ·unfold callK at h ⊢
   split at h
   ·rename_i f hc
    rw[ev f (by simp[ho,Op.operands,Call.operands,hc]),evAll_congr (st':=st') (st:=st) c.args.toList (fun x hx=>ev x (hargs x hx))]
    exact h
   ·exact h.elim
 ·refine valK_congr (mem:=kindOf o=1) (toks:=False) ⟨ev,fun hm=>A.ptr (.inl hm),fun hm=>A.ms (.inl hm),fun f=>f.elim⟩ ?_ h
  rintro⟨t,x,e⟩
  simp[kindOf,e]
theorem stepD_shape {o:Oper}{id tk:Nat}{δ:Delta}(h:stepD P o st id tk (· = δ)) :
  (∀i ob,δ.obj=some (true,i,ob)->i=id)/\(∀i ob,δ.obj=some (false,i,ob)->kindOf o=3/\∃ob',lkp st.heap i=some ob') /\
  (∀k t,δ.tok=some (k,t)->k=tk/\(kindOf o=2∨kindOf o=4)∨kindOf o=4/\∃t',lkp st.toks k=some t'):=by
 have vals:∀{F:(PV->Prop)->Prop},Det F->F (fun p=>Delta.val p=δ)->δ.obj=none/\δ.tok=none:=fun hF h=>by
  obtain⟨p,hp,_⟩:=hF.out _ h
  rw[<-hp]
  exact⟨rfl,rfl⟩
 have fin:δ.obj=none/\δ.tok=none->_:=fun (h:δ.obj=none/\δ.tok=none)=>(⟨fun i ob e=>(by rw[h.1]at e; cases e),fun i ob e=>(by rw[h.1]at e; cases e),fun k t e=>(by rw[h.2]at e; cases e)⟩ :
  (∀i ob,δ.obj=some (true,i,ob)->i=id)/\(∀i ob,δ.obj=some (false,i,ob)->kindOf o=3/\∃ob',lkp st.heap i=some ob') /\
  (∀k t,δ.tok=some (k,t)->k=tk/\(kindOf o=2∨kindOf o=4)∨kindOf o=4/\∃t',lkp st.toks k=some t'))
 unfold stepD at h
 split at h
 ·replace h:=bindO_elim h
  obtain⟨z,hz,_,rfl⟩:=h
  exact⟨fun i ob e=>(by injection e with e; injection e with _ e; injection e with e; exact e.symm),fun i ob e=>(by injection e with e; injection e with e; cases e),fun k t e=>(by cases e)⟩
 ·replace h:=bindO_elim h
  obtain⟨z,hz,_,rfl⟩:=h
  exact⟨fun i ob e=>(by injection e with e; injection e with _ e; injection e with e; exact e.symm),fun i ob e=>(by injection e with e; injection e with e; cases e),fun k t e=>(by cases e)⟩
 ·rename_i t x y ho
  replace h:=bindO_elim h
  obtain⟨p,hp,h⟩:=h
  replace h:=bindO_elim h
  obtain⟨q,hq,h⟩:=h
  split at h
  ·replace h:=bindO_elim h
   obtain⟨ob,hob,h⟩:=h
   split at h
   ·obtain⟨_,_,_,rfl⟩:=h
    exact⟨fun i ob e=>(by injection e with e; injection e with e; cases e),fun i ob e=>(by injection e with e; injection e with _ e; injection e with e _; subst e; exact⟨by simp[kindOf,ho],_,hob⟩),fun k t e=>(by cases e)⟩
   ·exact h.elim
  ·exact h.elim
 ·rename_i t len parts ho
  split at h
  ·replace h:=bindO_elim h
   obtain⟨sz,hsz,h⟩:=h
   replace h:=bindO_elim h
   obtain⟨z,hz,h⟩:=h
   replace h:=bindO_elim h
   obtain⟨ps,hps,h⟩:=h
   replace h:=bindO_elim h
   obtain⟨xs,hxs,_,_,_,_,_,rfl⟩:=h
   exact⟨fun i ob e=>(by cases e),fun i ob e=>(by cases e),fun k t e=>by injection e with e; injection e with e _; exact .inl ⟨e.symm,.inl (by simp[kindOf,ho])⟩⟩
  ·exact h.elim
 ·split at h
  ·replace h:=bindO_elim h
   obtain⟨sz,hsz,h⟩:=h
   replace h:=bindO_elim h
   obtain⟨b,hb,h⟩:=h
   replace h:=bindO_elim h
   obtain⟨z,hz,h⟩:=h
   replace h:=bindO_elim h
   obtain⟨p,hp,h⟩:=h
   replace h:=bindO_elim h
   obtain⟨q,hq,h⟩:=h
   replace h:=intK_elim h
   obtain⟨_,n,_,h⟩:=h
   replace h:=intK_elim h
   obtain⟨_,m,_,_,_,_,_,_,_,_,rfl⟩:=h
   exact⟨fun i ob e=>(by injection e with e; injection e with _ e; injection e with e; exact e.symm),fun i ob e=>(by injection e with e; injection e with e; cases e),fun k t e=>(by cases e)⟩
  ·exact h.elim
 ·obtain⟨_,h⟩:=h
  replace h:=bindO_elim h
  obtain⟨p,hp,h⟩:=h
  split at h
  ·subst h
   exact⟨fun i ob e=>(by injection e with e; injection e with _ e; injection e with e; exact e.symm),fun i ob e=>(by injection e with e; injection e with e; cases e),fun k t e=>(by cases e)⟩
  ·exact h.elim
 ·rename_i x ho
  replace h:=bindO_elim h
  obtain⟨p,hp,h⟩:=h
  split at h
  ·replace h:=bindO_elim h
   obtain⟨ob,hob,h⟩:=h
   split at h
   ·rename_i s pos
    by_cases hlt:pos<s.size
    ·have:=h.1 hlt
     subst this
     exact⟨fun i ob e=>(by injection e with e; injection e with e; cases e),fun i ob e=>(by injection e with e; injection e with _ e; injection e with e _; subst e; exact⟨by simp[kindOf,ho],_,hob⟩),fun k t e=>(by cases e)⟩
    ·have:=h.2 (by omega)
     subst this
     exact fin ⟨rfl,rfl⟩
   ·exact h.elim
  ·exact h.elim
 ·rename_i c ho
  split at h
  ·rename_i hc
   have hk:kindOf o=4:=by simp[kindOf,ho,hc]
   unfold appendK at h
   split at h
   ·split at h
    ·replace h:=bindO_elim h
     obtain⟨sz,hsz,h⟩:=h
     replace h:=bindO_elim h
     obtain⟨by_,hby,h⟩:=h
     replace h:=bindO_elim h
     obtain⟨z,hz,_,_,h⟩:=h
     replace h:=bindO_elim h
     obtain⟨d,hd,h⟩:=h
     replace h:=bindO_elim h
     obtain⟨s,hs,h⟩:=h
     split at h
     ·obtain⟨_,_,_,h⟩:=h
      unfold appTail at h
      split at h
      ·obtain⟨_,rfl⟩:=h
       exact fin ⟨rfl,rfl⟩
      ·split at h
       ·obtain⟨_,_,rfl⟩:=h
        exact⟨fun i ob e=>(by cases e),fun i ob e=>(by cases e),fun k t e=>by injection e with e; injection e with e _; exact .inl ⟨e.symm,.inr hk⟩⟩
       ·replace h:=bindO_elim h
        obtain⟨tk1,htk1,_,_,_,_,_,rfl⟩:=h
        exact⟨fun i ob e=>(by cases e),fun i ob e=>(by cases e),fun k t e=>by injection e with e; injection e with e _; subst e; exact .inr ⟨hk,_,htk1⟩⟩
       ·obtain⟨_,h⟩:=h
        replace h:=bindO_elim h
        obtain⟨xs0,hxs0,h⟩:=h
        replace h:=bindO_elim h
        obtain⟨xs,hxs,_,_,_,rfl⟩:=h
        exact⟨fun i ob e=>(by cases e),fun i ob e=>(by cases e),fun k t e=>by injection e with e; injection e with e _; exact .inl ⟨e.symm,.inr hk⟩⟩
       ·exact h.elim
     ·obtain⟨_,h⟩:=h
      replace h:=bindO_elim h
      obtain⟨ys0,hys0,h⟩:=h
      replace h:=bindO_elim h
      obtain⟨ys,hys,_,h⟩:=h
      unfold appTail at h
      split at h
      ·obtain⟨_,rfl⟩:=h
       exact fin ⟨rfl,rfl⟩
      ·split at h
       ·obtain⟨_,_,rfl⟩:=h
        exact⟨fun i ob e=>(by cases e),fun i ob e=>(by cases e),fun k t e=>by injection e with e; injection e with e _; exact .inl ⟨e.symm,.inr hk⟩⟩
       ·replace h:=bindO_elim h
        obtain⟨tk1,htk1,_,_,_,_,_,rfl⟩:=h
        exact⟨fun i ob e=>(by cases e),fun i ob e=>(by cases e),fun k t e=>by injection e with e; injection e with e _; subst e; exact .inr ⟨hk,_,htk1⟩⟩
       ·obtain⟨_,h⟩:=h
        replace h:=bindO_elim h
        obtain⟨xs0,hxs0,h⟩:=h
        replace h:=bindO_elim h
        obtain⟨xs,hxs,_,_,_,rfl⟩:=h
        exact⟨fun i ob e=>(by cases e),fun i ob e=>(by cases e),fun k t e=>by injection e with e; injection e with e _; exact .inl ⟨e.symm,.inr hk⟩⟩
       ·exact h.elim
    ·exact h.elim
   ·exact h.elim
  ·exact fin (vals callV_det h)
  ·exact fin (vals call_det h)
 ·exact fin (vals valK_det h)
end
end Go.Pw

end
section
namespace Go.Pw
open Go Go.RowKit
set_option linter.unusedVariables false
set_option linter.unusedSimpArgs false
structure Eqv (s s':PS):Prop where
 env:∀t,lkp s.env t=lkp s'.env t
 heap:∀t,lkp s.heap t=lkp s'.heap t
 toks:∀t,lkp s.toks t=lkp s'.toks t
theorem Eqv.refl (s:PS):Eqv s s:=⟨fun _=>rfl,fun _=>rfl,fun _=>rfl⟩
theorem Eqv.symm {s s':PS}(h:Eqv s s'):Eqv s' s:=⟨fun t=>(h.env t).symm,fun t=>(h.heap t).symm,fun t=>(h.toks t).symm⟩
theorem Eqv.trans {s s' s'':PS}(h:Eqv s s')(k:Eqv s' s''):Eqv s s'':=⟨fun t=>(h.env t).trans (k.env t),fun t=>(h.heap t).trans (k.heap t),fun t=>(h.toks t).trans (k.toks t)⟩
theorem Eqv.ev {s s':PS}(h:Eqv s s')(x:Operand):s.ev x=s'.ev x:=by
 cases x<;>simp only[PS.ev]
 exact h.env _
theorem Delta.apply_env (dst:Option Tmp)(s:PS)(d:Delta)(t:Nat):lkp (d.apply dst s).env t=if dst=some t then some (d.res.getD (.tup [])) else lkp s.env t:=by
 unfold Delta.apply
 cases hr:d.res with
 |some p=>
  cases dst with
  |none=>simp[PS.put]
  |some k=>simp only[PS.put,lkp_cons,Option.some.injEq]; by_cases h:t=k<;>simp[h,eq_comm]
 |none=>
  cases dst with
  |none=>simp[PS.kill,PS.put]
  |some k=>simp only[PS.kill,PS.put,lkp_cons,Option.some.injEq]; by_cases h:t=k<;>simp[h,eq_comm]
theorem Delta.apply_heap (dst:Option Tmp)(s:PS)(d:Delta)(t:Nat):lkp (d.apply dst s).heap t=match d.obj with
  |some (_,i,ob)=>if t=i then some ob else lkp s.heap t
  |none=>lkp s.heap t:=by
 unfold Delta.apply
 cases hr:d.res<;>cases dst<;>(cases ho:d.obj with
  |none=>rfl
  |some x=>obtain⟨b,i,ob⟩:=x; cases b<;>simp only[PS.put,PS.kill,lkp_cons,lkp_upd])
theorem Delta.apply_toks (dst:Option Tmp)(s:PS)(d:Delta)(t:Nat):lkp (d.apply dst s).toks t=match d.tok with
  |some (i,ob)=>if t=i then some ob else lkp s.toks t
  |none=>lkp s.toks t:=by
 unfold Delta.apply
 cases hr:d.res<;>cases dst<;>(cases ho:d.tok with
  |none=>rfl
  |some x=>obtain⟨i,ob⟩:=x; simp only[PS.put,PS.kill,lkp_upd])
theorem Eqv.apply {s s':PS}(h:Eqv s s')(dst:Option Tmp)(d:Delta):Eqv (d.apply dst s) (d.apply dst s'):=
 ⟨fun t=>by rw[Delta.apply_env,Delta.apply_env,h.env],fun t=>by rw[Delta.apply_heap,Delta.apply_heap,h.heap],fun t=>by rw[Delta.apply_toks,Delta.apply_toks,h.toks]⟩
section
variable {P:Program} {ops:Array Oper}
def elemD (P:Program)(ops:Array Oper)(o:Oper)(st:PS)(id tk:Nat)(K:Delta->Prop):Prop:=
 match o.guard with
 |none=>stepD P o st id tk K
 |some (g,b)=>guardK ops g st fun t=>(t=some b->stepD P o st id tk K)/\(t≠some b->K ⟨none,none,none⟩)
theorem guardK_congr {g:Nat}{s s':PS}{K:Option Bool->Prop}(h:∀d,(ops[g]?).bind (·.dst)=some d->lkp s'.env d=lkp s.env d)(k:guardK ops g s K):guardK ops g s' K:=by
 unfold guardK at k ⊢
 replace k:=bindO_elim k
 obtain⟨d,hd,k⟩:=k
 rw[hd,bindO_some,h d hd]
 exact k
theorem guardK_elim {g:Nat}{s:PS}{K:Option Bool->Prop}(k:guardK ops g s K):∃t,K t/\∀K':Option Bool->Prop,K' t->guardK ops g s K':=by
 unfold guardK at k ⊢
 replace k:=bindO_elim k
 obtain⟨d,hd,k⟩:=k
 replace k:=bindO_elim k
 obtain⟨p,hp,k⟩:=k
 simp only[hd,bindO_some,hp]
 split at k
 ·exact⟨_,k,fun K' h=>h⟩
 ·exact⟨_,k,fun K' h=>h⟩
 ·exact k.elim
theorem elemD_det {o:Oper}{st:PS}{id tk:Nat}:Det (elemD P ops o st id tk):=by
 unfold elemD
 split
 ·exact stepD_det
 ·rename_i g b _
  refine⟨fun K h=>?_⟩
  obtain⟨t,⟨h1,h2⟩,hk⟩:=guardK_elim h
  by_cases ht:t=some b
  ·obtain⟨x,hx,hx'⟩:=stepD_det.out _ (h1 ht)
   exact⟨x,hx,fun K' k'=>hk _ ⟨fun _=>hx' K' k',fun e=>absurd ht e⟩⟩
  ·exact⟨_,h2 ht,fun K' k'=>hk _ ⟨fun e=>absurd e ht,fun _=>k'⟩⟩
theorem mem_reads_op {o:Oper}{t:Nat}(h:Operand.tmp t∈o.op.operands.toList):t∈readsOf ops o:=by
 unfold readsOf
 exact List.mem_append.2 (.inl (List.mem_filterMap.2 ⟨_,h,rfl⟩))
theorem mem_reads_guard {o:Oper}{g:Nat}{b:Bool}{d:Nat}(hg:o.guard=some (g,b))(h:(ops[g]?).bind (·.dst)=some d):d∈readsOf ops o:=by
 unfold readsOf
 refine List.mem_append.2 (.inr ?_)
 rw[hg]
 simp[h]
structure AgreeO (ops:Array Oper) (o:Oper) (s s':PS):Prop where
 env:∀t∈readsOf ops o,lkp s'.env t=lkp s.env t
 obj:kindOf o=1∨kindOf o=3∨kindOf o=4->∀x∈o.op.operands.toList,∀id,((∃off,s.ev x=some (.ptr id off))∨∃lo n c,s.ev x=some (.ms id lo n c))->lkp s'.heap id=lkp s.heap id
 tok:kindOf o=4->∀x∈o.op.operands.toList,∀k xs,s.ev x=some (.row k xs)->lkp s'.toks k=lkp s.toks k
theorem AgreeO.evs {o:Oper}{s s':PS}(A:AgreeO ops o s s'):∀x∈o.op.operands.toList,s'.ev x=s.ev x:=by
 intro x hx
 cases x with
 |tmp t=>exact A.env t (mem_reads_op hx)
 |_=>rfl
theorem AgreeO.symm {o:Oper}{s s':PS}(A:AgreeO ops o s s'):AgreeO ops o s' s:=
 ⟨fun t ht=>(A.env t ht).symm,fun hk x hx id h=>(A.obj hk x hx id (by rw[A.evs x hx]at h; exact h)).symm,fun hk x hx k xs h=>(A.tok hk x hx k xs (by rw[A.evs x hx]at h; exact h)).symm⟩
theorem AgreeO.of_eqv {o:Oper}{s s':PS}(h:Eqv s s'):AgreeO ops o s s':=
 ⟨fun t _=>(h.env t).symm,fun _ _ _ id _=>(h.heap id).symm,fun _ _ _ k _ _=>(h.toks k).symm⟩
theorem elemD_congr {o:Oper}{id tk:Nat}{K:Delta->Prop}{s s':PS}(A:AgreeO ops o s s')(h:elemD P ops o s id tk K):elemD P ops o s' id tk K:=by
 have A':Agree o.op.operands.toList (kindOf o=1∨kindOf o=3∨kindOf o=4) (kindOf o=4) s s':=
  ⟨A.evs,fun hk x hx id off h ob hob=>by rw[A.obj hk x hx id (.inl ⟨off,h⟩)]; exact hob,fun hk x hx id lo n c h ob hob=>by rw[A.obj hk x hx id (.inr ⟨lo,n,c,h⟩)]; exact hob,
   fun hk x hx k xs h t ht=>by rw[A.tok hk x hx k xs h]; exact ht⟩
 unfold elemD at h ⊢
 split at h
 ·exact stepD_congr A' h
 ·rename_i g b hg
  obtain⟨t,⟨h1,h2⟩,hk⟩:=guardK_elim h
  have hk':=guardK_congr (s':=s') (fun d hd=>A.env d (mem_reads_guard hg hd)) (hk (fun u=>u=t) rfl)
  obtain⟨t',e,hk2⟩:=guardK_elim hk'
  subst e
  exact hk2 _ ⟨fun e=>stepD_congr A' (h1 e),h2⟩
theorem elemD_shape {o:Oper}{id tk:Nat}{δ:Delta}{st:PS}(h:elemD P ops o st id tk (· = δ)) :
  (∀i ob,δ.obj=some (true,i,ob)->i=id)/\(∀i ob,δ.obj=some (false,i,ob)->kindOf o=3/\∃ob',lkp st.heap i=some ob') /\
  (∀k t,δ.tok=some (k,t)->k=tk/\(kindOf o=2∨kindOf o=4)∨kindOf o=4/\∃t',lkp st.toks k=some t'):=by
 unfold elemD at h
 split at h
 ·exact stepD_shape h
 ·rename_i g b hg
  obtain⟨t,⟨h1,h2⟩,hk⟩:=guardK_elim h
  by_cases ht:t=some b
  ·exact stepD_shape (h1 ht)
  ·have:=h2 ht
   subst this
   exact⟨fun i ob e=>(by cases e),fun i ob e=>(by cases e),fun k t e=>(by cases e)⟩
structure Inh (U V:Nat->Prop) (st:PS):Prop where
 ptr:∀t id off,lkp st.env t=some (.ptr id off)->U id
 ms:∀t id lo n c,lkp st.env t=some (.ms id lo n c)->U id
 row:∀t k xs,lkp st.env t=some (.row k xs)->V k
 heap:∀id ob,lkp st.heap id=some ob->U id
 toks:∀k t,lkp st.toks k=some t->V k
theorem rep_row_V {C:Cx}{T:List (Nat×Tok)}{U V:Nat->Prop}{v:Value}{k:Nat}{xs:List (List PV)}(h:RepV C T U V v (.row k xs)):V k:=by
 cases h with
 |frz h=>cases h
 |row h hk ht=>exact hk
theorem StN.inh {own:Nat->Prop}{S0:Base}{w0 w:World}{N:Nat}{U V:Nat->Prop}{st:PS}{a:Act}(h:StN own S0 w0 N U V st a w):Inh U V st:=by
 obtain⟨h1,h2,C,R,E⟩:=h
 refine⟨fun t id off e=>?_,fun t id lo n c e=>?_,fun t k xs e=>?_,fun id ob e=>(R.hown id ob e).1,fun k t e=>(R.tok k t e).1⟩
 ·obtain⟨v,_,r⟩:=E t _ e; exact(rep_ptr r).2
 ·obtain⟨v,_,r⟩:=E t _ e; exact(rep_ms r).2.1
 ·obtain⟨v,_,r⟩:=E t _ e; exact rep_row_V r
theorem constPV_no {v:Value}:(∀id off,constPV v ≠ .ptr id off)/\(∀id lo n c,constPV v ≠ .ms id lo n c)/\(∀k xs,constPV v ≠ .row k xs):=by
 unfold constPV
 split<;>refine⟨fun _ _=>?_,fun _ _ _ _=>?_,fun _ _=>?_⟩<;>exact fun e=>by cases e
theorem Inh.ev_obj {U V:Nat->Prop}{st:PS}(h:Inh U V st){x:Operand}{id:Nat}(k:(∃off,st.ev x=some (.ptr id off))∨∃lo n c,st.ev x=some (.ms id lo n c)):U id:=by
 cases x with
 |tmp t=>
  rcases k with⟨off,k⟩|⟨lo,n,c,k⟩
  ·exact h.ptr t id off k
  ·exact h.ms t id lo n c k
 |const v=>
  rcases k with⟨off,k⟩|⟨lo,n,c,k⟩<;>simp only[PS.ev]at k<;>split at k
  ·exact(constPV_no.1 _ _ (Option.some.inj k)).elim
  ·cases k
  ·exact(constPV_no.2.1 _ _ _ _ (Option.some.inj k)).elim
  ·cases k
 |func f=>rcases k with⟨off,k⟩|⟨lo,n,c,k⟩<;>simp[PS.ev]at k
 |global g=>rcases k with⟨off,k⟩|⟨lo,n,c,k⟩<;>simp[PS.ev]at k
theorem Inh.ev_tok {U V:Nat->Prop}{st:PS}(h:Inh U V st){x:Operand}{id:Nat}{xs:List (List PV)}(k:st.ev x=some (.row id xs)):V id:=by
 cases x with
 |tmp t=>exact h.row t id xs k
 |const v=>
  simp only[PS.ev]at k
  split at k
  ·exact(constPV_no.2.2 _ _ (Option.some.inj k)).elim
  ·cases k
 |func f=>simp[PS.ev]at k
 |global g=>simp[PS.ev]at k
structure Indep (ops:Array Oper) (x y:Oper):Prop where
 kind:conflict (kindOf x) (kindOf y)=false
 d:∀d,x.dst=some d->d ∉ readsOf ops y
 e:∀d,y.dst=some d->d ∉ readsOf ops x
 dd:∀d,x.dst=some d->y.dst≠some d
theorem Indep.symm {x y:Oper}(h:Indep ops x y):Indep ops y x:=
 ⟨by have:=h.kind; unfold conflict at this ⊢; cases h1:kindOf x==3<;>cases h2:kindOf y==3<;>cases h3:kindOf x==1<;>cases h4:kindOf y==1<;>cases h5:kindOf x==4<;>cases h6:kindOf y==4<;>simp_all,
  h.e,h.d,fun d h1 h2=>h.dd d h2 h1⟩
theorem Indep.of {x y:Oper}(h:(!conflict (kindOf x) (kindOf y) && !slotsClash ops x y)=true):Indep ops x y:=by
 simp only[Bool.and_eq_true,Bool.not_eq_true',slotsClash,Bool.or_eq_false_iff]at h
 obtain⟨h1,h2,h3⟩:=h
 refine⟨h1,fun d hd hm=>?_,fun d hd hm=>?_,fun d hd hm=>?_⟩
 ·rw[hd]at h2; simp only[Bool.or_eq_false_iff]at h2; have:=h2.1; simp[hm]at this
 ·rw[hd]at h3; simp[hm]at h3
 ·rw[hd]at h2; simp only[Bool.or_eq_false_iff]at h2; have:=h2.2; simp[hm]at this
theorem agree_apply {x y:Oper}{s:PS}{U V:Nat->Prop}{id tk:Nat}{d:Delta}(I:Indep ops x y)(hi:Inh U V s)(hU:¬U id)(hV:¬V tk)(h:elemD P ops y s id tk (· = d)):AgreeO ops x s (d.apply y.dst s):=by
 obtain⟨s1,s2,s3⟩:=elemD_shape h
 refine⟨fun t ht=>?_,fun hk o ho i hx=>?_,fun hk o ho k xs hx=>?_⟩
 ·rw[Delta.apply_env,if_neg (fun e=>I.e t e ht)]
 ·rw[Delta.apply_heap]
  have hUi:=hi.ev_obj hx
  split
  ·rename_i b i' ob e
   rw[if_neg]
   rintro rfl
   cases b with
   |true=>exact hU (s1 _ _ e▸hUi)
   |false=>
    have:=(s2 _ _ e).1
    have hc:=I.kind
    rw[this]at hc
    rcases hk with hk|hk|hk<;>rw[hk]at hc<;>simp[conflict]at hc
  ·rfl
 ·rw[Delta.apply_toks]
  have hVk:=hi.ev_tok hx
  split
  ·rename_i i' t' e
   rw[if_neg]
   rintro rfl
   rcases s3 _ _ e with⟨h1,_⟩|⟨h1,_⟩
   ·exact hV (h1▸hVk)
   ·have hc:=I.kind
    rw[hk,h1]at hc
    simp[conflict]at hc
  ·rfl
theorem swap {x y:Oper}{s:PS}{U V:Nat->Prop}{ix tx iy ty:Nat}{dx dy:Delta}(I:Indep ops x y)(hi:Inh U V s)(hUx:¬U ix)(hVx:¬V tx)(hUy:¬U iy)(hVy:¬V ty)(hxy:ix≠iy)(txy:tx≠ty)
  (h:elemD P ops y s iy ty (· = dy)) (k:elemD P ops x (dy.apply y.dst s) ix tx (· = dx)) :
  elemD P ops x s ix tx (· = dx)/\elemD P ops y (dx.apply x.dst s) iy ty (· = dy)/\Eqv (dx.apply x.dst (dy.apply y.dst s)) (dy.apply y.dst (dx.apply x.dst s)):=by
 have h1:elemD P ops x s ix tx (· = dx):=elemD_congr (agree_apply I hi hUy hVy h).symm k
 have h2:elemD P ops y (dx.apply x.dst s) iy ty (· = dy):=elemD_congr (agree_apply I.symm hi hUx hVx h1) h
 refine⟨h1,h2,?_⟩
 obtain⟨x1,x2,x3⟩:=elemD_shape h1
 obtain⟨y1,y2,y3⟩:=elemD_shape h
 refine⟨fun t=>?_,fun t=>?_,fun t=>?_⟩
 ·simp only[Delta.apply_env]
  by_cases e1:x.dst=some t
  ·rw[if_pos e1,if_neg (I.dd t e1),if_pos e1]
  ·rw[if_neg e1,if_neg e1]
 ·simp only[Delta.apply_heap]
  cases ox:dx.obj with
  |none=>rfl
  |some ex=>
   cases oy:dy.obj with
   |none=>rfl
   |some ey=>
    obtain⟨bx,kx,obx⟩:=ex
    obtain⟨by_,ky,oby⟩:=ey
    have hne:kx≠ky:=by
     rintro rfl
     cases bx<;>cases by_
     ·have a:=(x2 _ _ ox).1; have b:=(y2 _ _ oy).1; have c:=I.kind; rw[a,b]at c; simp[conflict]at c
     ·obtain⟨_,ob',e⟩:=x2 _ _ ox; exact hUy (y1 _ _ oy▸hi.heap _ _ e)
     ·obtain⟨_,ob',e⟩:=y2 _ _ oy; exact hUx (x1 _ _ ox▸hi.heap _ _ e)
     ·exact hxy ((x1 _ _ ox).symm.trans (y1 _ _ oy))
    simp only
    by_cases e1:t=kx
    ·rw[if_pos e1,if_neg (fun e2=>hne (e1.symm.trans e2)),if_pos e1]
    ·rw[if_neg e1,if_neg e1]
 ·simp only[Delta.apply_toks]
  cases ox:dx.tok with
  |none=>rfl
  |some ex=>
   cases oy:dy.tok with
   |none=>rfl
   |some ey=>
    obtain⟨kx,obx⟩:=ex
    obtain⟨ky,oby⟩:=ey
    have hne:kx≠ky:=by
     rintro rfl
     rcases x3 _ _ ox with⟨a,_⟩|⟨a,a'⟩<;>rcases y3 _ _ oy with⟨b,_⟩|⟨b,b'⟩
     ·exact txy (a.symm.trans b)
     ·obtain⟨t',e⟩:=b'; exact hVx (a▸hi.toks _ _ e)
     ·obtain⟨t',e⟩:=a'; exact hVy (b▸hi.toks _ _ e)
     ·have c:=I.kind; rw[a,b]at c; simp[conflict]at c
    simp only
    by_cases e1:t=kx
    ·rw[if_pos e1,if_neg (fun e2=>hne (e1.symm.trans e2)),if_pos e1]
    ·rw[if_neg e1,if_neg e1]
def dopsL (P:Program)(ops:Array Oper)(nx0 nt0:Nat):List (Nat×Oper)->PS->(PS->Prop)->Prop
 | [],st,K=>K st
 |(i,o)::r,st,K=>elemD P ops o st (nx0+i) (nt0+i) fun d=>dopsL P ops nx0 nt0 r (d.apply o.dst st) K
def placed:Nat->List Oper->List (Nat×Oper)
 |_,[]=>[]
 |i,o::r=>(i,o)::placed (i+1) r
theorem dops_dopsL {nx0 nt0:Nat}{K:PS->Prop}:∀(l:List Oper)(i:Nat)(st:PS),dops0 P ops nx0 nt0 i l st K->dopsL P ops nx0 nt0 (placed i l) st (fun s=>K { s with nx:=nx0+(i+l.length),nt:=nt0+(i+l.length) })
 | [],i,st,h=>h
 |o::r,i,st,h=>by
  have ih:∀s,dops0 P ops nx0 nt0 (i+1) r s K->dopsL P ops nx0 nt0 (placed (i+1) r) s (fun s=>K { s with nx:=nx0+(i+(o::r).length),nt:=nt0+(i+(o::r).length) }):=fun s hs=>by
   have:=dops_dopsL r (i+1) s hs
   rw[show i+(o::r).length=i+1+r.length by simp; omega]
   exact this
  simp only[dops0]at h
  simp only[placed,dopsL,elemD]
  cases hg:o.guard with
  |none=>rw[hg]at h; exact stepD_mono (fun d hd=>ih _ hd) h
  |some gb=>
   obtain⟨g,b⟩:=gb
   rw[hg]at h
   obtain⟨t,⟨h1,h2⟩,hk⟩:=guardK_elim h
   exact hk _ ⟨fun e=>stepD_mono (fun d hd=>ih _ hd) (h1 e),fun e=>ih _ (h2 e)⟩
theorem dopsL_eqv {nx0 nt0:Nat}{K:PS->Prop}(hK:∀s s',Eqv s s'->K s->K s'):∀(l:List (Nat×Oper))(s s':PS),Eqv s s'->dopsL P ops nx0 nt0 l s K->dopsL P ops nx0 nt0 l s' K
 | [],s,s',e,h=>hK s s' e h
 |(i,o)::r,s,s',e,h=>by
  simp only[dopsL]at h ⊢
  exact elemD_det.mono (fun d hd=>dopsL_eqv hK r _ _ (e.apply _ d) hd) (elemD_congr (AgreeO.of_eqv e) h)
end
section
variable {P:Program} {own:Nat->Prop} {S0:Base} {w0:World} {N:Nat} {ops:Array Oper}
def With (U:Nat->Prop)(k:Nat):Nat->Prop:=fun i=>U i∨i=k
theorem elem_sound {o:Oper}{st:PS}{U V:Nat->Prop}{a:Act}{w:World}{id tk:Nat}{K:Delta->Prop}(hf:fitsDst N o.dst=true)(h:StN own S0 w0 N U V st a w)(hU:¬U id)(hV:¬V tk)(k:elemD P ops o st id tk K){Q:Exit->Act->World->Prop} :
  if Region.wanted o (yielded ops a.tmps) then o.wp P a w (fun a' w'=>∃d,K d/\StN own S0 w0 N (With U id) (With V tk) (d.apply o.dst st) a' w') Q else
   ∃d,K d/\StN own S0 w0 N (With U id) (With V tk) (d.apply o.dst st) (a.put o.dst undef) w:=by
 have step:stepD P o st id tk K->o.wp P a w (fun a' w'=>∃d,K d/\StN own S0 w0 N (With U id) (With V tk) (d.apply o.dst st) a' w') Q:=fun k=>by
  obtain⟨h1,h2,C,R,E⟩:=h
  refine Oper.wp_mono ?_ (stepN_sound (U':=With U id) (V':=With V tk) (K:=fun s=>∃d,K d/\s=d.apply o.dst st) E R h1 h2 hf (fun i h=> .inl h) (fun i h=> .inl h) (fun _=>⟨hU,.inr rfl⟩) (fun _=>⟨hV,.inr rfl⟩) (stepD_mono (fun d hd=>⟨d,hd,rfl⟩) k))
  rintro a' w' ⟨st',⟨d,hd,rfl⟩,hs⟩
  exact⟨d,hd,hs⟩
 unfold elemD at k
 split at k
 ·rename_i hg
  have:Region.wanted o (yielded ops a.tmps)=true:=by simp[Region.wanted,hg]
  rw[if_pos this]
  exact step k
 ·rename_i g b hg
  obtain⟨t,ht,k1,k2⟩:=guard_sound h k
  by_cases htb:t=some b
  ·have:Region.wanted o (yielded ops a.tmps)=true:=by simp[Region.wanted,hg,ht,htb]
   rw[if_pos this]
   exact step (k1 htb)
  ·have:Region.wanted o (yielded ops a.tmps)=false:=by simp[Region.wanted,hg,ht,htb]
   rw[if_neg (by rw[this]; simp)]
   exact⟨_,k2 htb,((h.kill o.dst hf).wide (fun j hj=> .inl hj) (fun j hj=> .inl hj))⟩
theorem upon_out {o:Oper}{a:Act}{R:Act->World->Prop}{r:Result Next}(h:o.upon P a R (fun _ _ _=>False) r):∃a' w',R a' w':=by
 unfold Oper.upon at h
 split at h
 ·exact⟨_,_,h⟩
 ·exact⟨_,_,h⟩
 ·exact⟨_,_,h⟩
 ·obtain⟨e,w',fr,hr,_⟩:=h []
  cases e with
  |returned v=>exact⟨_,_,hr⟩
  |panicked c=>exact hr.elim
  |outgrown=>obtain⟨a,w,h⟩:=hr; exact h.elim
 ·rename_i row args w'
  obtain⟨v,w'',hr,_⟩:=h (Frame.ofRow P row args .normal) []
  exact⟨_,_,hr⟩
 ·exact h.elim
 ·exact h.elim
theorem wp_out {o:Oper}{a:Act}{w:World}{R:Act->World->Prop}(h:o.wp P a w R (fun _ _ _=>False)):∃a' w',R a' w':=upon_out h
theorem elem_next {o:Oper}{st:PS}{U V:Nat->Prop}{a:Act}{w:World}{id tk:Nat}{K:Delta->Prop}(hf:fitsDst N o.dst=true)(h:StN own S0 w0 N U V st a w)(hU:¬U id)(hV:¬V tk)(k:elemD P ops o st id tk K) :
  ∃d a' w',K d/\StN own S0 w0 N (With U id) (With V tk) (d.apply o.dst st) a' w':=by
 have:=elem_sound (Q:=fun _ _ _=>False) hf h hU hV k
 split at this
 ·obtain⟨a',w',d,hd,hs⟩:=wp_out this; exact⟨d,a',w',hd,hs⟩
 ·obtain⟨d,hd,hs⟩:=this; exact⟨d,_,_,hd,hs⟩
theorem front {nx0 nt0:Nat}{K:PS->Prop}(hK:∀s s',Eqv s s'->K s->K s'){i:Nat}{o:Oper}{post:List (Nat×Oper)}:∀(pre:List (Nat×Oper))(st:PS)(U V:Nat->Prop)(a:Act)(w:World),
  StN own S0 w0 N U V st a w->dopsL P ops nx0 nt0 (pre++(i,o)::post) st K->(∀e∈pre,fitsDst N e.2.dst=true/\e.1≠i/\Indep ops o e.2/\¬U (nx0+e.1)/\¬V (nt0+e.1))->(pre.map (·.1)).Nodup->¬U (nx0+i)->¬V (nt0+i) ->
  ∃d,elemD P ops o st (nx0+i) (nt0+i) (· = d)/\dopsL P ops nx0 nt0 (pre++post) (d.apply o.dst st) K
 | [],st,U,V,a,w,h,k,_,_,hU,hV=>by
  simp only[List.nil_append,dopsL]at k ⊢
  obtain⟨d,h1,h2⟩:=elemD_det.out _ k
  exact⟨d,h2 _ rfl,h1⟩
 |(j,y)::pre,st,U,V,a,w,h,k,hp,hn,hU,hV=>by
  simp only[List.cons_append,dopsL]at k ⊢
  obtain⟨dy,k1,k2⟩:=elemD_det.out _ k
  obtain⟨hfy,hji,hI,hUj,hVj⟩:=hp (j,y) (by simp)
  simp only at hfy hji hI hUj hVj
  obtain⟨dy',a',w',e,hs⟩:=elem_next (K:=(· = dy)) hfy h hUj hVj (k2 _ rfl)
  subst e
  simp only[List.map_cons,List.nodup_cons]at hn
  obtain⟨dx,e1,e2⟩:=front hK pre _ (With U (nx0+j)) (With V (nt0+j)) a' w' hs k1 (fun e he=>by
   obtain⟨g1,g2,g3,g4,g5⟩:=hp e (by simp[he])
   have:e.1≠j:=fun e'=>hn.1 (List.mem_map.2 ⟨e,he,e'⟩)
   exact⟨g1,g2,g3,fun h=>h.elim g4 (fun h=>this (by omega)),fun h=>h.elim g5 (fun h=>this (by omega))⟩) hn.2
   (fun h=>h.elim hU (fun h=>hji (by omega))) (fun h=>h.elim hV (fun h=>hji (by omega)))
  obtain⟨f1,f2,f3⟩:=swap hI h.inh hU hV hUj hVj (by omega) (by omega) (k2 _ rfl) e1
  exact⟨dx,f1,elemD_det.mono (fun d hd=>by subst hd; exact dopsL_eqv hK _ _ _ f3 e2) f2⟩
theorem StN.eqv {U V:Nat->Prop}{st st':PS}{a:Act}{w:World}(h:StN own S0 w0 N U V st a w)(e:Eqv st' st):StN own S0 w0 N U V st' a w:=by
 obtain⟨h1,h2,C,R,E⟩:=h
 have X:Ext C C st.toks st'.toks U V U V:=⟨SLe.refl _,fun _ _=>rfl,fun k t _ h=>⟨t,(e.toks k)▸h,Nat.le_refl _,rfl,fun _=>rfl⟩,fun _ h=>h,fun _ h=>h⟩
 refine⟨h1,h2,C,⟨R.frame,R.stable,?_,?_,?_,?_,?_,?_,?_,R.snew,R.sold,R.base.trans X,R.glob⟩,?_⟩
 ·intro id T cs h
  obtain⟨vs,g1,g2,g3⟩:=R.box id T cs ((e.heap id)▸h)
  exact⟨vs,g1,g2,fun i v p hv hp=>⟨(g3 i v p hv hp).1,(g3 i v p hv hp).2.ext X⟩⟩
 ·exact fun id s pos h=>R.iter id s pos ((e.heap id)▸h)
 ·exact fun id o h=>R.hown id o ((e.heap id)▸h)
 ·exact fun i j oi oj g1 g2=>R.hinj i j oi oj ((e.heap i)▸g1) ((e.heap j)▸g2)
 ·exact fun k t h=>R.tok k t ((e.toks k)▸h)
 ·exact fun i oi k t g1 g2=>R.tbox i oi k t ((e.heap i)▸g1) ((e.toks k)▸g2)
 ·exact fun i j oi oj g1 g2=>R.tinj i j oi oj ((e.toks i)▸g1) ((e.toks j)▸g2)
 ·intro t p h
  obtain⟨v,g1,g2⟩:=E t p ((e.env t)▸h)
  exact⟨v,g1,g2.ext X⟩
end
end Go.Pw

end
section
namespace Go.Pw
open Go Go.RowKit
set_option linter.unusedVariables false
set_option linter.unusedSimpArgs false
def ancStep (acc:List Nat)(m:Nat)(e:Edge):Nat:=if Region.binds .any e then m ||| (1 <<< e.on) ||| acc.getD e.on 0 else m
theorem anc_fold {acc:List Nat}{j:Nat}:∀(l:List Edge)(m:Nat),(l.foldl (ancStep acc) m).testBit j=true ->
  m.testBit j=true∨∃e∈l,Region.binds .any e=true/\(e.on=j∨(acc.getD e.on 0).testBit j=true)
 | [],m,h=> .inl h
 |e::r,m,h=>by
  rw[List.foldl_cons]at h
  rcases anc_fold r _ h with h|⟨e',he,hb,h⟩
  ·unfold ancStep at h
   split at h
   ·rename_i hb
    simp only[Nat.testBit_or,Bool.or_eq_true,Nat.one_shiftLeft,Nat.testBit_two_pow,decide_eq_true_eq]at h
    rcases h with(h|h)|h
    ·exact .inl h
    ·exact .inr ⟨e,by simp,hb,.inl h⟩
    ·exact .inr ⟨e,by simp,hb,.inr h⟩
   ·exact .inl h
  ·exact .inr ⟨e',by simp[he],hb,h⟩
def AncOk (ops:List Oper)(acc:List Nat):Prop:=∀m j,m<acc.length->(acc.getD m 0).testBit j=true->∃o,ops[m]? = some o/\∃e∈o.after.toList,Region.binds .any e=true/\(e.on=j∨(e.on<m/\(acc.getD e.on 0).testBit j=true))
theorem ancs_cons (o:Oper)(r:List Oper)(i:Nat)(acc:List Nat):ancs (o::r) i acc=ancs r (i+1) (acc++[o.after.toList.foldl (ancStep acc) 0]):=rfl
theorem ancs_ok {ops:List Oper}:∀(l:List Oper)(pre:List Oper)(acc:List Nat),ops=pre++l->acc.length=pre.length->AncOk ops acc->AncOk ops (ancs l pre.length acc)/\(ancs l pre.length acc).length=ops.length
 | [],pre,acc,h,hl,k=>⟨k,by simp[ancs,h,hl]⟩
 |o::r,pre,acc,h,hl,k=>by
  rw[ancs_cons]
  have h1:ops=(pre++[o])++r:=by rw[h]; simp
  have:=ancs_ok r (pre++[o]) (acc++[o.after.toList.foldl (ancStep acc) 0]) h1 (by simp[hl]) ?_
  ·simpa using this
  intro m j hm hb
  rw[List.length_append,List.length_singleton]at hm
  have old:∀x,x<acc.length->(acc++[o.after.toList.foldl (ancStep acc) 0]).getD x 0=acc.getD x 0:=fun x hx=>by
   simp only[List.getD_eq_getElem?_getD,List.getElem?_append_left hx]
  by_cases hlt:m<acc.length
  ·rw[old m hlt]at hb
   obtain⟨o',ho,e,he,hbi,h2⟩:=k m j hlt hb
   refine⟨o',ho,e,he,hbi,h2.imp id (fun ⟨h3,h4⟩=>⟨h3,?_⟩)⟩
   rw[old _ (by omega)]
   exact h4
  ·have:m=acc.length:=by omega
   subst this
   have e1:(acc++[o.after.toList.foldl (ancStep acc) 0]).getD acc.length 0=o.after.toList.foldl (ancStep acc) 0:=by simp[List.getD_eq_getElem?_getD]
   rw[e1]at hb
   rcases anc_fold _ _ hb with h2|⟨e,he,hbi,h2⟩
   ·simp at h2
   ·refine⟨o,?_,e,he,hbi,h2.imp id (fun h3=>?_)⟩
    ·rw[h,hl]; simp
    ·by_cases hx:e.on<acc.length
     ·exact⟨hx,by rw[old _ hx]; exact h3⟩
     ·rw[List.getD_eq_getElem?_getD,List.getElem?_eq_none (by omega)]at h3
      simp at h3
theorem ancs_spec (ops:Array Oper):AncOk ops.toList (ancs ops.toList 0 []):=(ancs_ok ops.toList [] [] rfl rfl (fun m j h=>by simp at h)).1
theorem ancs_len (ops:Array Oper):(ancs ops.toList 0 []).length=ops.size:=by
 have:=(ancs_ok (ops:=ops.toList) ops.toList [] [] rfl rfl (fun m j h=>by simp at h)).2
 simpa using this
def Closed (ops:Array Oper)(listed:Array Bool):Prop:=∀m o,ops[m]? = some o->listed.getD m true=true->∀e∈o.after.toList,Region.binds .any e=true->listed.getD e.on false=true
theorem getD_true_false {l:Array Bool}{m:Nat}(h:l.getD m false=true):l.getD m true=true:=by
 simp only[Array.getD_eq_getD_getElem?]at h ⊢
 cases hx:l[m]? <;> simp_all
theorem anc_listed {ops:Array Oper}{listed:Array Bool}(hc:Closed ops listed):∀(m j:Nat),listed.getD m false=true->m<ops.size->((ancs ops.toList 0 []).getD m 0).testBit j=true->listed.getD j false=true:=by
 intro m
 induction m using Nat.strongRecOn with
 |_ m ih=>
  intro j hm hlt hb
  obtain⟨o,ho,e,he,hbi,h⟩:=ancs_spec ops m j (by rw[ancs_len]; exact hlt) hb
  have ho':ops[m]? = some o:=by simpa using ho
  have h1:=hc m o ho' (getD_true_false hm) e he hbi
  rcases h with h|⟨h2,h3⟩
  ·exact h▸h1
  ·exact ih e.on h2 j h1 (by omega) h3
theorem ready_mem {ops:Array Oper}{listed:Array Bool}{i:Nat}(h:i∈Region.ready .any ops listed):∃o,ops[i]? = some o/\listed.getD i true=false/\∀e∈o.after.toList,Region.binds .any e=true->listed.getD e.on false=true:=by
 unfold Region.ready at h
 rw[List.mem_filter]at h
 obtain⟨h1,h2⟩:=h
 have hi:i<ops.size:=List.mem_range.1 h1
 simp only[Bool.and_eq_true,Bool.not_eq_true',Array.getElem?_eq_getElem hi,Option.map_some,Option.getD_some]at h2
 refine⟨ops[i],Array.getElem?_eq_getElem hi,h2.1,fun e he hb=>?_⟩
 have h3:=h2.2
 rw[Array.all_eq_true']at h3
 have:=h3 e (by simpa using he)
 simpa [hb]using this
theorem mem_ready {ops:Array Oper}{listed:Array Bool}{i:Nat}{o:Oper}(ho:ops[i]? = some o)(h1:listed.getD i true=false)(h2:∀e∈o.after.toList,Region.binds .any e=true->listed.getD e.on false=true):i∈Region.ready .any ops listed:=by
 unfold Region.ready
 rw[List.mem_filter]
 refine⟨List.mem_range.2 (Array.getElem?_eq_some_iff.1 ho).1,?_⟩
 rw[ho,h1]
 simp only[Bool.not_false,Option.map_some,Option.getD_some,Bool.true_and]
 rw[Array.all_eq_true']
 intro e he
 cases hb:Region.binds .any e
 ·rfl
 ·simp[h2 e (by simpa using he) hb]
theorem getD_set {l:Array Bool}{i j:Nat}(b:Bool)(hi:i<l.size):(l.setIfInBounds i true).getD j b=if j=i then true else l.getD j b:=by
 simp only[Array.getD_eq_getD_getElem?,Array.getElem?_setIfInBounds]
 by_cases h:i=j
 ·subst h; simp[hi]
 ·rw[if_neg h,if_neg (fun e=>h e.symm)]
theorem drawOk_spec {ops:Array Oper}(hd:drawOk ops=true):∀i oi,ops[i]? = some oi->(∀e∈oi.after.toList,Region.binds .any e=true->e.on<i) /\
  ∀j oj,j<i->ops[j]? = some oj->((ancs ops.toList 0 []).getD i 0).testBit j=true∨Indep ops oi oj:=by
 intro i oi hi
 have hlt:i<ops.size:=(Array.getElem?_eq_some_iff.1 hi).1
 unfold drawOk at hd
 simp only[List.all_eq_true,List.mem_range]at hd
 have h:=hd i hlt
 rw[hi]at h
 simp only[Bool.and_eq_true,List.all_eq_true,List.mem_range]at h
 refine⟨fun e he hb=>?_,fun j oj hj hoj=>?_⟩
 ·have:=h.1 e he
  simpa [hb]using this
 ·have:=h.2 j hj
  rw[hoj]at this
  simp only[Bool.or_eq_true]at this
  exact this.imp id Indep.of
theorem placed_get:∀(l:List Oper)(i:Nat)(e:Nat×Oper),e∈placed i l↔i<=e.1/\l[e.1-i]? = some e.2
 | [],i,e=>by simp[placed]
 |o::r,i,e=>by
  simp only[placed,List.mem_cons,placed_get r (i+1) e]
  obtain⟨k,x⟩:=e
  simp only[Prod.mk.injEq]
  constructor
  ·rintro(⟨rfl,rfl⟩|⟨h1,h2⟩)
   ·simp
   ·refine⟨by omega,?_⟩
    rw[show k-i=(k-(i+1))+1 by omega]
    simpa using h2
  ·rintro⟨h1,h2⟩
   by_cases hk:k=i
   ·subst hk
    simp at h2
    exact .inl ⟨rfl,h2.symm⟩
   ·refine .inr ⟨by omega,?_⟩
    rw[show k-i=(k-(i+1))+1 by omega]at h2
    simpa using h2
theorem placed_sorted:∀(l:List Oper)(i:Nat),(placed i l).Pairwise (fun x y=>x.1<y.1)
 | [],i=> .nil
 |o::r,i=>by
  refine .cons (fun e he=>?_) (placed_sorted r (i+1))
  have:=(placed_get r (i+1) e).1 he
  simp only
  omega
section
variable {P:Program} {own:Nat->Prop} {S0:Base} {w0:World} {N:Nat} {ops:Array Oper}
def Seg (ops:Array Oper)(k:Nat):Prop:=∀(listed:Array Bool),listed.size=ops.size->Closed ops listed->(∀j,k<=j->j<ops.size->listed.getD j true=false)->(∃j,j<k/\listed.getD j true=false)->∀i∈Region.ready .any ops listed,i<k
theorem any_seg {k:Nat}(hseg:Seg ops k)(hks:k<=ops.size){nx0 nt0:Nat}{QQ:Exit->Act->World->Prop}{K:PS->Prop}(hK:∀s s',Eqv s s'->K s->K s')(hd:drawOk ops=true)(hf:(ops.toList.all fun o=>fitsDst N o.dst)=true)
  (hQ:∀s a w fuel (listed:Array Bool),K s->StN own S0 w0 N (· < nx0+k) (· < nt0+k) s a w->listed.size=ops.size->Closed ops listed->(∀j,j<k->listed.getD j true=true)->(∀j,k<=j->j<ops.size->listed.getD j true=false)->ops.size-k<=fuel->wpAny P .any ops QQ fuel listed a w) :
  ∀(n fuel:Nat) (listed:Array Bool) (L:List (Nat×Oper)) (U V:Nat->Prop) (st:PS) (a:Act) (w:World),L.length=n ->
  listed.size=ops.size->L.length+(ops.size-k)<=fuel->L.Pairwise (fun x y=>x.1<y.1)->(∀e,e∈L↔ops[e.1]? = some e.2/\e.1<k/\listed.getD e.1 true=false)->(∀j,k<=j->j<ops.size->listed.getD j true=false)->Closed ops listed ->
  (∀e∈L,¬U (nx0+e.1)/\¬V (nt0+e.1))->(∀i,U i->i<nx0+k)->(∀i,V i->i<nt0+k)->StN own S0 w0 N U V st a w->dopsL P ops nx0 nt0 L st K->wpAny P .any ops QQ fuel listed a w:=by
 intro n
 induction n with
 |zero=>
  intro fuel listed L U V st a w hn hsz hl hs hL hge hc hUV hU hV h kk
  have:L=[]:=List.length_eq_zero_iff.1 hn
  subst this
  refine hQ st a w fuel listed kk (h.wide hU hV) hsz hc (fun j hj=>?_) hge (by simpa using hl)
  cases hg:listed.getD j true with
  |true=>rfl
  |false=>
   have:=(hL (j,ops[j]'(by omega))).2 ⟨Array.getElem?_eq_getElem _,hj,hg⟩
   cases this
 |succ n ih=>
  intro fuel listed L U V st a w hn hsz hl hs hL hge hc hUV hU hV h kk
  cases fuel with
  |zero=>omega
  |succ fuel=>
  have fin:Region.ready .any ops listed≠[]:=by
   cases L with
   |nil=>simp at hn
   |cons e r=>
    intro hr
    obtain⟨h1,hlt0,h2⟩:=(hL e).1 (by simp)
    have:e.1∈Region.ready .any ops listed:=mem_ready h1 h2 (fun x hx hb=>by
     have hlt:=(drawOk_spec hd _ _ h1).1 x hx hb
     have hsize:e.1<ops.size:=(Array.getElem?_eq_some_iff.1 h1).1
     cases hg:listed.getD x.on false with
     |true=>rfl
     |false=>
      exfalso
      have hx1:listed.getD x.on true=false:=by
       have:x.on<listed.size:=by omega
       simp only[Array.getD_eq_getD_getElem?,Array.getElem?_eq_getElem this]at hg ⊢
       simpa using hg
      have hm:=(hL (x.on,ops[x.on]'(by omega))).2 ⟨Array.getElem?_eq_getElem _,by simp only; omega,hx1⟩
      rcases List.mem_cons.1 hm with hm|hm
      ·have:=congrArg Prod.fst hm; simp only at this; omega
      ·have:=List.rel_of_pairwise_cons hs hm; simp only at this; omega)
    rw[hr]at this
    cases this
  refine⟨fun hr=>absurd hr fin,fun i hi=>?_⟩
  ·obtain⟨o,ho,hun,hdeps⟩:=ready_mem hi
   have hil:i<ops.size:=(Array.getElem?_eq_some_iff.1 ho).1
   have hik:i<k:=by
    cases L with
    |nil=>simp at hn
    |cons e r=>
     obtain⟨_,h1,h2⟩:=(hL e).1 (by simp)
     exact hseg listed hsz hc hge ⟨e.1,h1,h2⟩ i hi
   have hmem:=(hL (i,o)).2 ⟨ho,hik,hun⟩
   obtain⟨pre,post,rfl⟩:=List.append_of_mem hmem
   obtain⟨hUi,hVi⟩:=hUV (i,o) hmem
   have hsp:=List.pairwise_append.1 hs
   have hfit:∀(x:Nat) (o':Oper),ops[x]? = some o'->fitsDst N o'.dst=true:=fun x o' hx=>by
    rw[List.all_eq_true]at hf
    exact hf o' (List.mem_of_getElem? (i:=x) (by simpa using hx))
   have hnd:∀{l:List (Nat×Oper)},l.Pairwise (fun x y=>x.1<y.1)->(l.map (·.1)).Nodup:=fun {l} hl=>by
    rw[List.Nodup,List.pairwise_map]
    exact hl.imp (fun h=>by omega)
   obtain⟨d,e1,e2⟩:=front hK pre st U V a w h kk (fun e he=>by
    obtain⟨g1,g0,g2⟩:=(hL e).1 (List.mem_append.2 (.inl he))
    have hlt:e.1<i:=hsp.2.2 e he (i,o) (by simp)
    refine⟨hfit _ _ g1,by omega,?_,hUV e (List.mem_append.2 (.inl he))⟩
    rcases(drawOk_spec hd i o ho).2 e.1 e.2 hlt g1 with hb|hI
    ·exfalso
     obtain⟨o',ho',x,hx,hbi,hh⟩:=ancs_spec ops i e.1 (by rw[ancs_len]; exact hil) hb
     have:o'=o:=by rw[show ops.toList[i]? = ops[i]? by simp,ho]at ho'; exact(Option.some.inj ho').symm
     subst this
     have hx1:=hdeps x hx hbi
     have:listed.getD e.1 false=true:=by
      rcases hh with hh|⟨hh1,hh2⟩
      ·exact hh▸hx1
      ·exact anc_listed hc x.on e.1 hx1 (by omega) hh2
     have:=getD_true_false this
     rw[g2]at this
     cases this
    ·exact hI) (hnd hsp.1) hUi hVi
   have hset:∀(b:Bool) (j:Nat),(listed.setIfInBounds i true).getD j b=if j=i then true else listed.getD j b:=fun b j=>getD_set b (by omega)
   have next:∀a' w' U' V',U'=With U (nx0+i)->V'=With V (nt0+i)->StN own S0 w0 N U' V' (d.apply o.dst st) a' w'->wpAny P .any ops QQ fuel (listed.setIfInBounds i true) a' w':=by
    rintro a' w' U' V' rfl rfl hs'
    have hsub:(pre++post).Sublist (pre++(i,o)::post):=List.Sublist.append (List.Sublist.refl _) (List.sublist_cons_self _ _)
    have hpw:=hs.sublist hsub
    have hne:∀e∈pre++post,e.1≠i:=fun e he=>by
     rcases List.mem_append.1 he with he|he
     ·have:=hsp.2.2 e he (i,o) (by simp); simp only at this; omega
     ·have:=List.rel_of_pairwise_cons hsp.2.1 he; simp only at this; omega
    refine ih fuel _ (pre++post) _ _ _ a' w' (by simp at hn ⊢; omega) (by simp[hsz]) (by simp at hl ⊢; omega) hpw (fun e=>?_) (fun j hj hjs=>?_) ?_ (fun e he=>?_) (fun x hx=>hx.elim (hU x) (fun e=>by omega)) (fun x hx=>hx.elim (hV x) (fun e=>by omega)) hs' e2
    ·rw[hset]
     constructor
     ·intro he
      have:=(hL e).1 (hsub.subset he)
      rw[if_neg (hne e he)]
      exact this
     ·rintro⟨g1,g0,g2⟩
      split at g2
      ·cases g2
      ·rename_i hei
       have:=(hL e).2 ⟨g1,g0,g2⟩
       rcases List.mem_append.1 this with this|this
       ·exact List.mem_append.2 (.inl this)
       ·rcases List.mem_cons.1 this with this|this
        ·exact absurd (congrArg Prod.fst this) hei
        ·exact List.mem_append.2 (.inr this)
    ·rw[hset,if_neg (by omega)]
     exact hge j hj hjs
    ·intro m om hm hlm x hx hb
     rw[hset]at hlm ⊢
     split
     ·rfl
     ·split at hlm
      ·rename_i _ hmi
       subst hmi
       rw[ho]at hm
       obtain rfl:=Option.some.inj hm
       exact hdeps x hx hb
      ·exact hc m om hm hlm x hx hb
    ·obtain⟨g1,g2⟩:=hUV e (hsub.subset he)
     have:=hne e he
     exact⟨fun h=>h.elim g1 (fun h=>this (by omega)),fun h=>h.elim g2 (fun h=>this (by omega))⟩
   unfold wpOp
   rw[ho]
   have:=elem_sound (K:=(· = d)) (Q:=QQ) (hfit _ _ ho) h hUi hVi e1
   simp only
   split
   ·rename_i hw
    rw[if_pos hw]at this
    refine .inl (Oper.wp_mono ?_ this)
    rintro a' w' ⟨d',rfl,hs'⟩
    exact next a' w' _ _ rfl rfl hs'
   ·rename_i hw
    rw[if_neg hw]at this
    obtain⟨d',rfl,hs'⟩:=this
    exact next _ _ _ _ rfl rfl hs'
theorem seg_all:Seg ops ops.size:=fun listed _ _ _ _ i hi=>by
 obtain⟨o,ho,_⟩:=ready_mem hi
 exact(Array.getElem?_eq_some_iff.1 ho).1
theorem any_sound {nx0 nt0:Nat}{R:Act->World->Prop}{QQ:Exit->Act->World->Prop}{K:PS->Prop}(hK:∀s s',Eqv s s'->K s->K s')(hd:drawOk ops=true)(hf:(ops.toList.all fun o=>fitsDst N o.dst)=true)
  (hQ:∀s a w,K s->StN own S0 w0 N (· < nx0+ops.size) (· < nt0+ops.size) s a w->QQ .normal a w) (fuel:Nat) (listed:Array Bool) (L:List (Nat×Oper)) (U V:Nat->Prop) (st:PS) (a:Act) (w:World)
  (hsz:listed.size=ops.size) (hl:L.length<=fuel) (hs:L.Pairwise (fun x y=>x.1<y.1)) (hL:∀e,e∈L↔ops[e.1]? = some e.2/\listed.getD e.1 true=false) (hc:Closed ops listed)
  (hUV:∀e∈L,¬U (nx0+e.1)/\¬V (nt0+e.1)) (hU:∀i,U i->i<nx0+ops.size) (hV:∀i,V i->i<nt0+ops.size) (h:StN own S0 w0 N U V st a w) (k:dopsL P ops nx0 nt0 L st K):wpAny P .any ops QQ fuel listed a w:=by
 refine any_seg seg_all (Nat.le_refl _) hK hd hf ?_ L.length fuel listed L U V st a w rfl hsz (by omega) hs (fun e=>(hL e).trans ⟨fun h=>⟨h.1,(Array.getElem?_eq_some_iff.1 h.1).1,h.2⟩,fun h=>⟨h.1,h.2.2⟩⟩) (fun j h1 h2=>absurd h2 (by omega)) hc hUV hU hV h k
 intro s a w fuel listed hk hs hsz hc h1 h2 hfu
 have hr:Region.ready .any ops listed=[]:=by
  cases hx:Region.ready .any ops listed with
  |nil=>rfl
  |cons i r=>
   obtain⟨o,g1,g2,_⟩:=ready_mem (ops:=ops) (listed:=listed) (i:=i) (by rw[hx]; simp)
   rw[h1 i (Array.getElem?_eq_some_iff.1 g1).1]at g2
   cases g2
 cases fuel with
 |zero=>exact⟨hr,hQ s a w hk hs⟩
 |succ fuel=>exact⟨fun _=>hQ s a w hk hs,fun i hi=>by rw[hr]at hi; cases hi⟩
theorem anc_of {listed:Array Bool}(hc:Closed ops listed){i j:Nat}{o:Oper}(ho:ops[i]? = some o)(hd:∀e∈o.after.toList,Region.binds .any e=true->listed.getD e.on false=true)(hj:((ancs ops.toList 0 []).getD i 0).testBit j=true):listed.getD j false=true:=by
 have hil:i<ops.size:=(Array.getElem?_eq_some_iff.1 ho).1
 obtain⟨o',ho',x,hx,hbi,hh⟩:=ancs_spec ops i j (by rw[ancs_len]; exact hil) hj
 have:o'=o:=by rw[show ops.toList[i]? = ops[i]? by simp,ho]at ho'; exact(Option.some.inj ho').symm
 subst this
 have hx1:=hd x hx hbi
 rcases hh with hh|⟨hh1,hh2⟩
 ·exact hh▸hx1
 ·exact anc_listed hc x.on j hx1 (by omega) hh2
theorem bar_spec {k:Nat}(h:barOk ops k=true):(∃o,ops[k]? = some o/\o.guard=none)/\(∀i,i<k->((ancs ops.toList 0 []).getD k 0).testBit i=true)/\∀i,k<i->i<ops.size->((ancs ops.toList 0 []).getD i 0).testBit k=true:=by
 unfold barOk at h
 simp only[Bool.and_eq_true,List.all_eq_true,List.mem_range,Bool.or_eq_true,beq_iff_eq]at h
 obtain⟨h1,h2⟩:=h
 have hk:∃o,ops[k]? = some o/\o.guard=none:=by
  split at h1
  ·rename_i o ho; exact⟨o,ho,by simpa using h1⟩
  ·cases h1
 obtain⟨o,ho,hg⟩:=hk
 have hks:k<ops.size:=(Array.getElem?_eq_some_iff.1 ho).1
 refine⟨⟨o,ho,hg⟩,fun i hi=>?_,fun i hi hs=>?_⟩
 ·have:=(h2 i (by omega)).resolve_left (by omega)
  rwa [if_pos hi]at this
 ·have:=(h2 i hs).resolve_left (by omega)
  rwa [if_neg (by omega)]at this
theorem bar_seg {k:Nat}(h:barOk ops k=true):Seg ops k:=by
 obtain⟨⟨ok,hok,_⟩,hb,ha⟩:=bar_spec h
 intro listed hsz hc hge ⟨j,hj,hju⟩ i hi
 obtain⟨o,ho,hun,hdeps⟩:=ready_mem hi
 have hil:i<ops.size:=(Array.getElem?_eq_some_iff.1 ho).1
 have hks:k<ops.size:=(Array.getElem?_eq_some_iff.1 hok).1
 rcases Nat.lt_trichotomy i k with h|h|h
 ·exact h
 ·subst h
  have:=getD_true_false (anc_of hc ho hdeps (hb j hj))
  rw[hju]at this; cases this
 ·have:=getD_true_false (anc_of hc ho hdeps (ha i h hil))
  rw[hge k (Nat.le_refl _) hks]at this; cases this
theorem pdraw_sound {id:Nat}{st:PS}{a:Act}{w:World}{Q:Exit->PS->Prop}(hm:P.follows .mixedOrders=true)(hf:(ops.toList.all fun o=>fitsDst N o.dst)=true)(hd:drawOk ops=true)(k:dops P ops st.nx st.nt 0 ops.toList st (Q .normal))
  (h:Stt own S0 w0 N st a w):(Code.region id ops true).wp P (liftN own S0 w0 N Q) a w:=by
 refine wp_region_any hm ?_
 have k1:=dops_dopsL ops.toList 0 st (dops_dops0 ops.toList 0 st k)
 have hz:∀m,m<ops.size->(Array.replicate ops.size false).getD m true=false:=fun m hm=>by simp[Array.getD_eq_getD_getElem?,Array.getElem?_replicate,hm]
 have hz':∀m,(Array.replicate ops.size false).getD m false=false:=fun m=>by
  simp only[Array.getD_eq_getD_getElem?,Array.getElem?_replicate]; split<;>rfl
 have h':Stt own S0 w0 N st a w.drew:=by
  obtain⟨h1,h2,C,R,E⟩:=h
  exact⟨h1,h2,C,R.drew,E⟩
 refine any_sound (R:=fun _ _=>True) (nx0:=st.nx) (nt0:=st.nt) (K:=fun s=>∃s0,Eqv s0 s/\Q .normal { s0 with nx:=st.nx+(0+ops.toList.length),nt:=st.nt+(0+ops.toList.length) }) ?_ hd hf ?_
  ops.size (Array.replicate ops.size false) (placed 0 ops.toList) (· < st.nx) (· < st.nt) st a _ (by simp) ?_ (placed_sorted _ _) (fun e=>?_) ?_ (fun e _=>⟨by omega,by omega⟩) (fun i h=>by omega) (fun i h=>by omega) h' ?_
 ·rintro s s' e ⟨s0,e0,hq⟩
  exact⟨s0,e0.trans e,hq⟩
 ·rintro s a' w' ⟨s0,e0,hq⟩ hs
  refine⟨_,hq,?_⟩
  have:=(hs.eqv e0).nxnt (st.nx+(0+ops.toList.length)) (st.nt+(0+ops.toList.length))
  exact this.wide (fun i hi=>by simpa using hi) (fun i hi=>by simpa using hi)
 ·have:∀(l:List Oper) (i:Nat),(placed i l).length=l.length:=by
   intro l
   induction l with
   |nil=>intro i; rfl
   |cons o r ih=>intro i; simp[placed,ih]
  simp[this]
 ·rw[placed_get]
  simp only[Nat.zero_le,Nat.sub_zero,true_and,Array.getElem?_toList]
  constructor
  ·exact fun h=>⟨h,hz _ (Array.getElem?_eq_some_iff.1 h).1⟩
  ·exact fun h=>h.1
 ·intro m o hmo hl
  rw[hz m (Array.getElem?_eq_some_iff.1 hmo).1]at hl
  cases hl
 ·have gen:∀(l:List (Nat×Oper)) (s:PS) (K K':PS->Prop),(∀s,K s->K' s)->dopsL P ops st.nx st.nt l s K->dopsL P ops st.nx st.nt l s K':=by
   intro l
   induction l with
   |nil=>exact fun s K K' hk h=>hk s h
   |cons e r ih=>
    intro s K K' hk h
    obtain⟨i,o⟩:=e
    simp only[dopsL]at h ⊢
    exact elemD_det.mono (fun d hd=>ih _ K K' hk hd) h
  exact gen _ _ _ _ (fun s hs=>⟨s,Eqv.refl s,hs⟩) k1
theorem bar_sound {id k:Nat}{st:PS}{a:Act}{w:World}{Q:Exit->PS->Prop}(hm:P.follows .mixedOrders=true)(hf:(ops.toList.all fun o=>fitsDst N o.dst)=true)(hd:drawOk ops=true)(hb:barOk ops k=true)
  (kk:dopsB P ops ops.toList k st (Q .normal)) (h:Stt own S0 w0 N st a w):(Code.region id ops true).wp P (liftN own S0 w0 N Q) a w:=by
 refine wp_region_any hm ?_
 obtain⟨⟨ok,hok,hgu⟩,hb1,hb2⟩:=bar_spec hb
 have hks:k<ops.size:=(Array.getElem?_eq_some_iff.1 hok).1
 unfold dopsB at kk
 have hd1:(ops.toList.drop k).take 1=[ok]:=by
  have:ops.toList[k]? = some ok:=by simpa using hok
  rw[List.drop_eq_getElem_cons (by simpa using hks)]
  have h2:=(List.getElem?_eq_some_iff.1 this).2
  simp[h2]
 rw[hd1]at kk
 have k1:=dops_dopsL (ops.toList.take k) 0 st (dops_dops0 _ 0 st kk)
 have hz:∀m,m<ops.size->(Array.replicate ops.size false).getD m true=false:=fun m hm=>by simp[Array.getD_eq_getD_getElem?,Array.getElem?_replicate,hm]
 have h':Stt own S0 w0 N st a w.drew:=by
  obtain⟨h1,h2,C,R,E⟩:=h
  exact⟨h1,h2,C,R.drew,E⟩
 have hplen:∀(l:List Oper) (i:Nat),(placed i l).length=l.length:=by
  intro l
  induction l with
  |nil=>intro i; rfl
  |cons o r ih=>intro i; simp[placed,ih]
 have hfit:∀(x:Nat) (o':Oper),ops[x]? = some o'->fitsDst N o'.dst=true:=fun x o' hx=>by
  rw[List.all_eq_true]at hf
  exact hf o' (List.mem_of_getElem? (i:=x) (by simpa using hx))
 have htl:(ops.toList.take k).length=k:=by rw[List.length_take]; simp; omega
 have gen:∀(nx0 nt0:Nat) (l:List (Nat×Oper)) (s:PS) (K K':PS->Prop),(∀s,K s->K' s)->dopsL P ops nx0 nt0 l s K->dopsL P ops nx0 nt0 l s K':=by
  intro nx0 nt0 l
  induction l with
  |nil=>exact fun s K K' hk h=>hk s h
  |cons e r ih=>
   intro s K K' hk h
   obtain⟨i,o⟩:=e
   simp only[dopsL]at h ⊢
   exact elemD_det.mono (fun d hd=>ih _ K K' hk hd) h
 refine any_seg (k:=k) (bar_seg hb) (by omega) (nx0:=st.nx) (nt0:=st.nt)
  (K:=fun s=>∃s0,Eqv s0 s/\dopsS P ops 0 [ok] { s0 with nx:=st.nx+(0+k),nt:=st.nt+(0+k) } fun s'=>dops P ops s'.nx s'.nt (k+1) (ops.toList.drop (k+1)) s' (Q .normal)) ?_ hd hf ?_
  k ops.size (Array.replicate ops.size false) (placed 0 (ops.toList.take k)) (· < st.nx) (· < st.nt) st a _ (by rw[hplen,htl]) (by simp) (by rw[hplen,htl]; omega) (placed_sorted _ _) (fun e=>?_) (fun j _ hj=>hz j hj) ?_ (fun e _=>⟨by omega,by omega⟩) (fun i h=>by omega) (fun i h=>by omega) h' ?_
 ·rintro s s' e ⟨s0,e0,hq⟩
  exact⟨s0,e0.trans e,hq⟩
 ·rintro s a' w' fuel listed ⟨s0,e0,hq⟩ hs hsz hc hlt hge hfu
  have hs2:=(hs.eqv e0).nxnt (st.nx+(0+k)) (st.nt+(0+k))
  have hs3:Stt own S0 w0 N { s0 with nx:=st.nx+(0+k),nt:=st.nt+(0+k) } a' w':=hs2.wide (fun i hi=>by simpa using hi) (fun i hi=>by simpa using hi)
  generalize { s0 with nx:=st.nx+(0+k),nt:=st.nt+(0+k) }=sb at hq hs3
  have hready:∀i∈Region.ready .any ops listed,i=k:=by
   intro i hi
   obtain⟨o,ho,hun,hdeps⟩:=ready_mem hi
   have hil:i<ops.size:=(Array.getElem?_eq_some_iff.1 ho).1
   rcases Nat.lt_trichotomy i k with h|h|h
   ·rw[hlt i h]at hun; cases hun
   ·exact h
   ·have:=getD_true_false (anc_of hc ho hdeps (hb2 i h hil))
    rw[hge k (Nat.le_refl _) hks]at this; cases this
  have hkr:k∈Region.ready .any ops listed:=mem_ready hok (hge k (Nat.le_refl _) hks) (fun e he hbi=>by
   have h1:=(drawOk_spec hd k ok hok).1 e he hbi
   have h2:=hlt e.on h1
   simp only[Array.getD_eq_getD_getElem?,Array.getElem?_eq_getElem (show e.on<listed.size by omega)]at h2 ⊢
   simpa using h2)
  cases fuel with
  |zero=>omega
  |succ fuel=>
  refine⟨fun hr=>(by rw[hr]at hkr; cases hkr),fun i hi=>?_⟩
  obtain rfl:=hready i hi
  unfold wpOp
  rw[hok]
  have hw:Region.wanted ok (yielded ops a'.tmps)=true:=by simp[Region.wanted,hgu]
  simp only
  rw[if_pos hw]
  refine .inl ?_
  simp only[dopsS,hgu]at hq
  obtain⟨h1,h2,C,R,E⟩:=hs3
  refine Oper.wp_mono ?_ (stepS_sound (i:=0) E R h1 h2 (hfit _ _ hok) hq)
  rintro a2 w2 ⟨s2,hk2,hS2⟩
  have hset:∀(b:Bool) (j:Nat),(listed.setIfInBounds i true).getD j b=if j=i then true else listed.getD j b:=fun b j=>getD_set b (by omega)
  obtain⟨s3,e3⟩:∃s3:PS,s3={ s2 with nx:=s2.nx+(0+1),nt:=s2.nt+(0+1) }:=⟨_,rfl⟩
  have hk3:dops P ops s3.nx s3.nt (i+1) (ops.toList.drop (i+1)) s3 (Q .normal):=by rw[e3]; exact hk2
  have hS3:Stt own S0 w0 N s3 a2 w2:=by rw[e3]; exact hS2.nxnt _ _
  have k2:=dops_dopsL (ops.toList.drop (i+1)) (i+1) _ (dops_dops0 _ (i+1) _ hk3)
  have hdl:(ops.toList.drop (i+1)).length=ops.size-(i+1):=by simp
  refine any_sound (R:=fun _ _=>True) (nx0:=s3.nx) (nt0:=s3.nt) (K:=fun s=>∃s0,Eqv s0 s/\Q .normal { s0 with nx:=s3.nx+(i+1+(ops.toList.drop (i+1)).length),nt:=s3.nt+(i+1+(ops.toList.drop (i+1)).length) }) ?_ hd hf ?_
   fuel (listed.setIfInBounds i true) (placed (i+1) (ops.toList.drop (i+1))) (· < s3.nx) (· < s3.nt) s3 a2 w2 (by simp[hsz]) (by rw[hplen,hdl]; omega) (placed_sorted _ _) (fun e=>?_) ?_ (fun e _=>⟨by omega,by omega⟩) (fun j h=>by omega) (fun j h=>by omega) hS3 (gen _ _ _ _ _ _ (fun s hs=>⟨s,Eqv.refl s,hs⟩) k2)
  ·rintro s s' e ⟨s0,e0,hq⟩
   exact⟨s0,e0.trans e,hq⟩
  ·rintro s a3 w3 ⟨s0,e0,hq⟩ hs
   refine⟨_,hq,?_⟩
   have:=(hs.eqv e0).nxnt (s3.nx+(i+1+(ops.toList.drop (i+1)).length)) (s3.nt+(i+1+(ops.toList.drop (i+1)).length))
   exact this.wide (fun j hj=>by rw[hdl]; show j<s3.nx+_; omega) (fun j hj=>by rw[hdl]; show j<s3.nt+_; omega)
  ·rw[placed_get,hset,List.getElem?_drop]
   constructor
   ·rintro⟨g1,g2⟩
    rw[show i+1+(e.1-(i+1))=e.1 by omega]at g2
    have g3:ops[e.1]? = some e.2:=by simpa using g2
    rw[if_neg (by omega)]
    exact⟨g3,hge e.1 (by omega) (Array.getElem?_eq_some_iff.1 g3).1⟩
   ·rintro⟨g1,g2⟩
    split at g2
    ·cases g2
    ·rename_i hne
     have hgt:i<e.1:=by
      rcases Nat.lt_trichotomy e.1 i with h|h|h
      ·rw[hlt e.1 h]at g2; cases g2
      ·exact absurd h hne
      ·exact h
     refine⟨hgt,?_⟩
     rw[show i+1+(e.1-(i+1))=e.1 by omega]
     simpa using g1
  ·intro m om hm hlm x hx hbi
   rw[hset]at hlm ⊢
   split
   ·rfl
   ·split at hlm
    ·rename_i _ hmi
     subst hmi
     rw[hok]at hm
     obtain rfl:=Option.some.inj hm
     obtain⟨o',ho',_,hdeps⟩:=ready_mem hkr
     rw[hok]at ho'
     obtain rfl:=Option.some.inj ho'
     exact hdeps x hx hbi
    ·exact hc m om hm hlm x hx hbi
 ·rw[placed_get]
  simp only[Nat.zero_le,Nat.sub_zero,true_and]
  rw[List.getElem?_take]
  constructor
  ·intro h
   split at h
   ·have h:ops[e.1]? = some e.2:=by simpa using h
    exact⟨h,by assumption,hz _ (Array.getElem?_eq_some_iff.1 h).1⟩
   ·cases h
  ·rintro⟨h1,h2,_⟩
   rw[if_pos h2]
   simpa using h1
 ·intro m o hmo hl
  rw[hz m (Array.getElem?_eq_some_iff.1 hmo).1]at hl
  cases hl
 ·refine gen _ _ _ _ _ _ (fun s hs=>⟨s,Eqv.refl s,?_⟩) k1
  rw[htl]at hs
  exact hs
theorem expl_sound {id:Nat}{st:PS}{a:Act}{w:World}{Q:Exit->PS->Prop}{l:Nat×Nat}(hL:(∀i,S0.U i->i<l.1)/\∀i,S0.V i->i<l.2)(hm:P.follows .mixedOrders=true)(hf:(ops.toList.all fun o=>fitsDst N o.dst)=true)
  (kk:expl P ops l st (Q .normal)) (h:Stt own S0 w0 N st a w):(Code.region id ops true).wp P (liftN own S0 w0 N Q) a w:=by
 refine wp_region_any hm ?_
 obtain⟨ι,I,B,m,i0,hw,hB,hm0,k⟩:=kk
 have h':Stt own S0 w0 N st a w.drew:=by
  obtain⟨h1,h2,C,R,E⟩:=h
  exact⟨h1,h2,C,R.drew,E⟩
 have key:∀(fuel:Nat) (i:ι) (a:Act) (w:World),m i<=fuel->Stt own S0 w0 N (I i) a w->wpAny P .any ops (liftN own S0 w0 N Q) fuel (B i) a w:=by
  intro fuel
  induction fuel with
  |zero=>
   intro i a w hi hs
   have hr:=(k i).2.1 (by omega)
   exact⟨hr,⟨_,(k i).1 hr,hs⟩⟩
  |succ fuel ih=>
   intro i a w hi hs
   refine⟨fun hr=>⟨_,(k i).1 hr,hs⟩,fun n hn=>?_⟩
   have hk:=bindO_elim ((k i).2.2 n hn)
   obtain⟨o,ho,hd⟩:=hk
   unfold wpOp
   rw[ho]
   have hfit:fitsDst N o.dst=true:=by
    rw[List.all_eq_true]at hf
    exact hf o (List.mem_of_getElem? (i:=n) (by simpa using ho))
   have next:∀(s2:PS) (a2:Act) (w2:World),(∃j,m j<m i/\B j=(B i).setIfInBounds n true/\Weak l { s2 with nx:=s2.nx+(0+1),nt:=s2.nt+(0+1) } (I j))->StN own S0 w0 N (· < s2.nx+(0+1)) (· < s2.nt+(0+1)) s2 a2 w2->wpAny P .any ops (liftN own S0 w0 N Q) fuel ((B i).setIfInBounds n true) a2 w2:=by
    rintro s2 a2 w2 ⟨j,hj,hBj,hwj⟩ hS2
    have hS3:Stt own S0 w0 N { s2 with nx:=s2.nx+(0+1),nt:=s2.nt+(0+1) } a2 w2:=hS2.nxnt _ _
    rw[<-hBj]
    exact ih j a2 w2 (by omega) (hS3.weak hL hwj)
   have step:stepN false P o (I i) ((I i).nx+0) ((I i).nt+0) (fun s2=>∃j,m j<m i/\B j=(B i).setIfInBounds n true/\Weak l { s2 with nx:=s2.nx+(0+1),nt:=s2.nt+(0+1) } (I j))->o.wp P a w (wpAny P .any ops (liftN own S0 w0 N Q) fuel ((B i).setIfInBounds n true)) (liftN own S0 w0 N Q):=fun hd=>by
    obtain⟨h1,h2,C,R,E⟩:=hs
    refine Oper.wp_mono ?_ (stepS_sound (i:=0) E R h1 h2 hfit hd)
    rintro a2 w2 ⟨s2,h,hS2⟩
    exact next s2 a2 w2 h hS2
   simp only
   rcases hd with hd|⟨hg,hd⟩
   rotate_left
   ·have hwant:Region.wanted o (yielded ops a.tmps)=true:=by simp[Region.wanted,hg]
    rw[if_pos hwant]
    refine .inl (Oper.wp_mono ?_ (hd own S0 w0 N a w _ hfit hs))
    rintro a2 w2 ⟨s2,⟨j,hj,hBj,hwj⟩,hS2⟩
    rw[<-hBj]
    exact ih j a2 w2 (by omega) (Stt.weak hL hS2 hwj)
   simp only[dopsS]at hd
   cases hg:o.guard with
   |none=>
    rw[hg]at hd
    have hwant:Region.wanted o (yielded ops a.tmps)=true:=by simp[Region.wanted,hg]
    rw[if_pos hwant]
    exact .inl (step hd)
   |some gb=>
    obtain⟨g,b⟩:=gb
    rw[hg]at hd
    obtain⟨t,ht,k1,k2⟩:=guard_sound hs hd
    by_cases htb:t=some b
    ·have hwant:Region.wanted o (yielded ops a.tmps)=true:=by simp[Region.wanted,hg,ht,htb]
     rw[if_pos hwant]
     exact .inl (step (k1 htb))
    ·have hwant:Region.wanted o (yielded ops a.tmps)=false:=by simp[Region.wanted,hg,ht,htb]
     rw[if_neg (by rw[hwant]; simp)]
     refine next ((I i).kill o.dst) _ _ (k2 htb) ?_
     have:=(hs.kill o.dst hfit).wide (U':=(· < (I i).nx+(0+1))) (V':=(· < (I i).nt+(0+1))) (fun j hj=>by omega) (fun j hj=>by omega)
     unfold PS.kill
     rw[put_nx,put_nt]
     exact this
 rw[<-hB]
 exact key ops.size i0 a _ hm0 (h'.weak hL hw)
end
end Go.Pw

end
section
namespace Go.Pw
open Go Go.RowKit
set_option linter.unusedVariables false
set_option linter.unusedSimpArgs false
section
variable {P:Program} {own:Nat->Prop} {S0:Base} {w0:World} {N:Nat}
theorem pwp_sound (hm:P.follows .mixedOrders=true){L:Lim}(hL:(∀i,S0.U i->i<L.l.1)/\∀i,S0.V i->i<L.l.2):∀(c:Code)(Q:Exit->PS->Prop)(st:PS)(a:Act)(w:World),fitsC L.bar N c=true->pwp P L c st Q->Stt own S0 w0 N st a w->c.wp P (liftN own S0 w0 N Q) a w:=by
 intro c
 induction c with
 |skip=>exact fun Q st a w _ k h=>wp_skip ⟨st,k,h⟩
 |label l=>exact fun Q st a w _ k h=>wp_label ⟨st,k,h⟩
 |region id ops draw=>
  intro Q st a w hf k h
  simp only[fitsC,Bool.and_eq_true]at hf
  cases draw with
  |true=>
   simp only[pwp]at k
   cases hb:L.bar id with
   |none=>
    rw[hb]at k hf
    exact pdraw_sound hm hf.1 (by simpa using hf.2) k h
   |some n=>
    rw[hb]at k hf
    simp only at k
    split at k
    ·rename_i hlt
     exact bar_sound hm hf.1 (by
      have:=hf.2
      simp only[Bool.not_true,Bool.false_or,Bool.or_eq_true,decide_eq_true_eq]at this
      rcases this with h|h
      ·exact h
      ·omega) k.1 k.2 h
    ·exact expl_sound hL hm hf.1 k h
  |false=>
   simp only[pwp]at k
   cases hb:L.bar id with
   |none=>rw[hb]at k; exact wp_region_list (dopsS_sound ops.toList 0 st a w hf.1 k h)
   |some n=>
    rw[hb]at k
    simp only at k
    split at k
    ·obtain⟨st',hw,k⟩:=k
     exact wp_region_list (dopsS_sound ops.toList 0 st' a w hf.1 k (h.weak hL hw))
    ·exact wp_region_list (dopsM_sound n st a w hf.1 k h)
 |seq x y ihx ihy=>
  intro Q st a w hf k h
  simp only[fitsC,Bool.and_eq_true]at hf
  simp only[pwp]at k
  refine wp_seq (wp_mono (ihx _ st a w hf.1 k h) ?_)
  rintro e a' w' ⟨st',hq,hs⟩
  cases e with
  |normal=>exact ihy Q st' a' w' hf.2 hq hs
  |_=>exact⟨st',hq,hs⟩
 |cond c t e iht ihe=>
  intro Q st a w hf k h
  simp only[fitsC,Bool.and_eq_true]at hf
  simp only[pwp]at k
  replace k:=bindO_elim k
  obtain⟨p,hp,k⟩:=k
  split at k
  ·rename_i b
   obtain⟨h1,h2,C,R,E⟩:=h
   have hb:=(rep_val (ev_rep E hp)).1
   refine wp_cond hb ?_
   cases b with
   |true=>exact iht Q st a w hf.1 (k.1 rfl) ⟨h1,h2,C,R,E⟩
   |false=>exact ihe Q st a w hf.2 (k.2 rfl) ⟨h1,h2,C,R,E⟩
  ·exact k.elim
 |block id c ih=>
  intro Q st a w hf k h
  simp only[fitsC]at hf
  simp only[pwp]at k
  refine wp_block (wp_mono (ih _ st a w hf k h) ?_)
  rintro e a' w' ⟨st',hq,hs⟩
  cases e with
  |exit i=>
   simp only[Exit.inBlock]
   simp only at hq
   split
   ·rw[if_pos (by assumption)]at hq; exact⟨st',hq,hs⟩
   ·rw[if_neg (by assumption)]at hq; exact⟨st',hq,hs⟩
  |_=>exact⟨st',hq,hs⟩
 |loop c ih=>
  intro Q st a w hf k h
  simp only[fitsC]at hf
  simp only[pwp]at k
  obtain⟨ι,I,m,i0,hw,k⟩:=k
  have key:∀(n:Nat) (i:ι),m i<n->∀a w,Stt own S0 w0 N (I i) a w->Code.rounds P c (liftN own S0 w0 N Q) n a w:=by
   intro n
   induction n with
   |zero=>intro i hi; exact absurd hi (Nat.not_lt_zero _)
   |succ n ihn=>
    intro i hi a w hs
    rw[rounds_succ]
    refine wp_mono (ih _ (I i) a w hf (k i) hs) ?_
    rintro e a' w' ⟨st',hq,hs'⟩
    cases e with
    |normal=>
     obtain⟨j,hj,hw'⟩:=hq
     exact ihn j (by omega) a' w' (hs'.weak hL hw')
    |_=>exact⟨st',hq,hs'⟩
  exact wp_loop_rounds _ (key (m i0+1) i0 (by omega) a w (h.weak hL hw))
 |scope c ih=>
  intro Q st a w hf k h
  simp only[fitsC]at hf
  simp only[pwp]at k
  refine wp_scope_straight (wp_mono (ih _ st a w hf k h) ?_)
  rintro e a' w' ⟨st',hq,hs⟩
  cases e with
  |goto l=>exact hq.elim
  |_=>exact⟨st',hq,hs⟩
 |exit id=>exact fun Q st a w _ k h=>wp_exit ⟨st,k,h⟩
 |ret=>exact fun Q st a w _ k h=>wp_ret ⟨st,k,h⟩
 |_=>intro Q st a w _ k h; exact k.elim
def enterEnv:Nat->List PV->List (Nat×PV)
 |_,[]=>[]
 |i,p::r=>(i,p)::enterEnv (i+1) r
theorem enterEnv_lkp:∀(args:List PV)(k t:Nat)(p:PV),lkp (enterEnv k args) t=some p->k<=t/\args[t-k]? = some p
 | [],k,t,p,h=>by simp[enterEnv,lkp]at h
 |q::r,k,t,p,h=>by
  simp only[enterEnv,lkp_cons]at h
  split at h
  ·rename_i e
   subst e
   exact⟨Nat.le_refl _,by simpa using h⟩
  ·obtain⟨h1,h2⟩:=enterEnv_lkp r (k+1) t p h
   refine⟨by omega,?_⟩
   rw[show t-k=(t-(k+1))+1 by omega]
   simpa using h2
def enterPS (args:List PV):PS:={ env:=enterEnv 0 args,heap:=[],toks:=[],nx:=0,nt:=0 }
def resOf (P:Program)(st:PS):ResultVar->Option PV
 | .tmp t=>lkp st.env t
 | .cell a t=>match lkp st.env a with
  |some (.ptr id off)=>match lkp st.heap id with
   |some (.box _ cs)=>readCells P t cs off
   |_=>none
  |_=>none
def resAll (P:Program)(st:PS):List ResultVar->Option (List PV)
 | []=>some []
 |x::r=>match resOf P st x,resAll P st r with
  |some p,some l=>some (p::l)
  |_,_=>none
def packR:List PV->PV
 | [p]=>p
 |l=> .tup l
def outK (P:Program)(fn:Func)(r:PV):Exit->PS->Prop
 | .normal,st=>bindO (resAll P st fn.results.toList) fun l=>bindO (fzAs l) fun l'=>packR l'=r
 | .ret,st=>bindO (resAll P st fn.results.toList) fun l=>bindO (fzAs l) fun l'=>packR l'=r
 |_,_=>False
def resSem (tmps:Array Value):ResultVar->Sem Value
 | .tmp t=>Pure.pure (tmps.getD t undef)
 | .cell b t=>do loadVar t (<-asAddr (tmps.getD b undef))
theorem results_eq (fn:Func)(tmps:Array Value):results fn tmps=(do let vs <-fn.results.mapM (resSem tmps); Pure.pure (if h:vs.size=1 then vs[0] else .tuple vs)):=by
 unfold results
 congr 1
theorem res_sound {C:Cx}{U V:Nat->Prop}{st:PS}{a:Act}{w:World}(R:Rel own S0 w0 C U V st w)(E:Env C U V st a){x:ResultVar}{p:PV}(h:resOf P st x=some p) :
  ∃v,(resSem a.tmps x).run P w = .ok v w/\RepV C st.toks U V v p:=by
 cases x with
 |tmp t=>
  obtain⟨v,hv,r⟩:=E t p h
  exact⟨v,by simp[resSem,hv],r⟩
 |cell b t=>
  simp only[resOf]at h
  split at h
  ·rename_i id off hb
   split at h
   ·rename_i T cs ho
    obtain⟨v,hv,r⟩:=E b _ hb
    obtain⟨rfl,hid⟩:=rep_ptr r
    obtain⟨vs,hbk,hsz,hrep⟩:=R.box id T cs ho
    obtain⟨u,hu,hr⟩:=run_loadVar_cells (P:=P) (b:=C.ρ id) (w:=w) (vs:=[]) (C:=C) (T:=st.toks) (U:=U) (V:=V) h (fun i q hq=>by
     have hi:i<vs.size:=by rw[hsz]; exact(List.getElem?_eq_some_iff.1 hq).1
     have h1:vs[i]? = some vs[i]:=Array.getElem?_eq_getElem hi
     exact⟨vs[i],by rw[Nat.add_sub_cancel,cell_of_row w (C.ρ id) i vs T (0,0) hbk]; exact h1,(hrep i _ q h1 hq).1,(hrep i _ q h1 hq).2⟩)
    exact⟨u,by simp[resSem,hv,asAddr,hu],hr⟩
   ·cases h
  ·cases h
theorem resAll_sound {C:Cx}{U V:Nat->Prop}{st:PS}{a:Act}{w:World}(R:Rel own S0 w0 C U V st w)(E:Env C U V st a):∀(xs:List ResultVar)(l:List PV),resAll P st xs=some l ->
  ∃vs:List Value,(xs.mapM (resSem a.tmps)).run P w = .ok vs w/\vs.length=l.length/\∀(i:Nat) (v:Value) (p:PV),vs[i]? = some v->l[i]? = some p->RepV C st.toks U V v p
 | [],l,h=>by
  simp only[resAll,Option.some.injEq]at h
  subst h
  exact⟨[],by simp,rfl,fun i v p hv=>by simp at hv⟩
 |x::r,l,h=>by
  simp only[resAll]at h
  split at h
  ·rename_i p l' hp hl
   obtain rfl:=Option.some.inj h
   obtain⟨v,h1,h2⟩:=res_sound (P:=P) R E hp
   obtain⟨vs,h3,h4,h5⟩:=resAll_sound R E r l' hl
   refine⟨v::vs,?_,by simp[h4],fun i u q hu hq=>?_⟩
   ·rw[List.mapM_cons,Sem.run_bind,h1]
    simp only[Result.andThen_ok]
    rw[Sem.run_bind,h3]
    simp only[Result.andThen_ok,Sem.run_pure]
   ·cases i with
    |zero=>simp at hu hq; subst hu hq; exact h2
    |succ i=>exact h5 i u q (by simpa using hu) (by simpa using hq)
  ·cases h
theorem results_sound {C:Cx}{U V:Nat->Prop}{st:PS}{a:Act}{w:World}(R:Rel own S0 w0 C U V st w)(E:Env C U V st a){fn:Func}{l l':List PV}(h:resAll P st fn.results.toList=some l)(hf:fzAs l=some l') :
  ∃v,(results fn a.tmps).run P w = .ok v w/\RepA C.S v (packR l'):=by
 obtain⟨vs,h1,h2,h3⟩:=resAll_sound (P:=P) R E _ _ h
 obtain⟨h4,h5⟩:=fzAs_get hf
 have hrun:(results fn a.tmps).run P w = .ok (if h:vs.toArray.size=1 then vs.toArray[0] else .tuple vs.toArray) w:=by
  rw[results_eq,Array.mapM_eq_mapM_toList,Sem.run_bind,Sem.run_map,h1]
  rfl
 refine⟨_,hrun,?_⟩
 have hrep:∀(i:Nat) (v:Value) (q:PV),vs[i]? = some v->l'[i]? = some q->RepA C.S v q:=by
  intro i v q hv hq
  have hi:i<l.length:=by rw[h4]; exact(List.getElem?_eq_some_iff.1 hq).1
  have hp:=List.getElem?_eq_getElem hi
  exact fzA_rep (h5 i _ q hp hq) (h3 i v _ hv hp)
 by_cases hs:vs.toArray.size=1
 ·rw[dif_pos hs]
  match l',vs,hs,h2,h4,hrep with
  | [q],[v],_,_,_,hrep=>exact hrep 0 v q rfl rfl
  | [],[v],_,h2,h4,_=>simp only[List.length_cons,List.length_nil]at h2 h4; omega
  |_::_::_,[v],_,h2,h4,_=>simp only[List.length_cons,List.length_nil]at h2 h4; omega
 ·rw[dif_neg hs]
  have:packR l' = .tup l':=by
   match l',h4 with
   | [q],h4=>exfalso; apply hs; simp at h4 ⊢; omega
   | [],_=>rfl
   |_::_::_,_=>rfl
  rw[this]
  exact .tup (by simp; omega) (fun i v p hv hp=>hrep i v p (by simpa using hv) hp)
theorem Ok.of_pwpB (hm:P.follows .mixedOrders=true){f:FuncId}{fn:Func}{c:Code}{args:List PV}{r:PV}(hf:P.funcs[f]? = some fn)(hb:fn.body=some c)(hent:enters P f=true)
  {bar:Nat->Option Nat} (hfit:fitsC bar (args.length+(fn.ntmps-args.length)) c=true) (h:pwp P ⟨(0,0),bar⟩ c (enterPS args) (outK P fn r)):Ok P f args r:=by
 refine⟨hent,fun S w vals hkn hS hsz hrep=>?_⟩
 refine calls_of_wp hf hb ?_
 have hst:Stt Never ⟨S,C0 S,[],Never,Never⟩ w (args.length+(fn.ntmps-args.length)) (enterPS args) { tmps:=vals++Array.replicate (fn.ntmps-vals.size) undef,defers:=[] } w:=by
  refine⟨rfl,by simp[hsz],C0 S,⟨Frame.refl _ _,hS,?_,?_,?_,?_,?_,?_,?_,fun b o v h=> .inl h,SLe.refl _,⟨SLe.refl _,fun _ h=>h.elim,fun _ _ h=>h.elim,fun _ h=>h.elim,fun _ h=>h.elim⟩,⟨hkn.2,hkn.1,fun _ _ h=>h⟩⟩,?_⟩
  ·intro id T cs h; cases h
  ·intro id s pos h; cases h
  ·intro id o h; cases h
  ·intro i j oi oj h; cases h
  ·intro k t h; cases h
  ·intro i oi k t h; cases h
  ·intro i j ti tj h; cases h
  ·intro t p h
   obtain⟨_,h2⟩:=enterEnv_lkp args 0 t p h
   rw[Nat.sub_zero]at h2
   have ht:t<vals.size:=by rw[hsz]; exact(List.getElem?_eq_some_iff.1 h2).1
   have hv:vals[t]? = some vals[t]:=Array.getElem?_eq_getElem ht
   refine⟨vals[t],?_,RepV.ext (C:=C0 S) (C':=C0 S) (T:=[]) (T':=[]) ⟨SLe.refl _,fun _ h=>h.elim,fun _ _ h=>h.elim,fun _ h=>h.elim,fun _ h=>h.elim⟩ (hrep t _ p hv h2)⟩
   show(vals++Array.replicate _ undef)[t]? = _
   rw[Array.getElem?_append_left ht]
   exact hv
 refine wp_mono (pwp_sound (S0:=⟨S,C0 S,[],Never,Never⟩) hm ⟨fun _ h=>False.elim h,fun _ h=>False.elim h⟩ c _ _ _ w hfit h hst) ?_
 have fin:∀(st:PS) (a':Act) (w':World),Stt Never ⟨S,C0 S,[],Never,Never⟩ w (args.length+(fn.ntmps-args.length)) st a' w'->(bindO (resAll P st fn.results.toList) fun l=>bindO (fzAs l) fun l'=>packR l'=r) ->
   a'.defers=[]/\∃v,(results fn a'.tmps).run P w' = .ok v w'/\∃v' S',Ending.returned v=Ending.returned v'/\SLe S S'/\Stable S' w'/\(∀b o u,S' b o=some u->S b o=some u∨w.heap.size<=b)/\RepA S' v' r/\Below w.heap.size w w':=by
  intro st a' w' ⟨h1,h2,C,R,E⟩ hk
  replace hk:=bindO_elim hk
  obtain⟨l,hl,hk⟩:=hk
  replace hk:=bindO_elim hk
  obtain⟨l',hl',rfl⟩:=hk
  obtain⟨v,hv,hr⟩:=results_sound (P:=P) R E hl hl'
  refine⟨h1,v,hv,v,C.S,rfl,R.sold,R.stable,fun b o u h=>(R.snew b o u h).imp id (fun h=>h.elim (fun h=>h.elim) id),hr,⟨R.frame.os,R.frame.tape,R.frame.output,R.frame.size,fun k hk=>R.frame.block k hk (fun h=>h)⟩⟩
 rintro e a' w' ⟨st,hq,hs⟩
 cases e with
 |normal=>exact fin st a' w' hs hq
 |ret=>exact fin st a' w' hs hq
 |_=>exact hq.elim
theorem Ok.of_pwp (hm:P.follows .mixedOrders=true){f:FuncId}{fn:Func}{c:Code}{args:List PV}{r:PV}(hf:P.funcs[f]? = some fn)(hb:fn.body=some c)(hent:enters P f=true)
 (hfit:fitsC noBar (args.length+(fn.ntmps-args.length)) c=true) (h:pwp P ⟨(0,0),noBar⟩ c (enterPS args) (outK P fn r)):Ok P f args r:=Ok.of_pwpB hm hf hb hent hfit h
def outI (P:Program)(fn:Func)(L:Nat×Nat)(Q:PV->PS->Prop):Exit->PS->Prop
 | .normal,st=>bindO (resAll P st fn.results.toList) fun l=>∃st',Q (packR l) st'/\Weak L { st with env:=[(0,packR l)] } { st' with env:=[(0,packR l)] }
 | .ret,st=>bindO (resAll P st fn.results.toList) fun l=>∃st',Q (packR l) st'/\Weak L { st with env:=[(0,packR l)] } { st' with env:=[(0,packR l)] }
 |_,_=>False
theorem packR_rep {C:Cx}{T:List (Nat×Tok)}{U V:Nat->Prop}{vs:List Value}{l:List PV}(hn:vs.length=l.length)(hrep:∀(i:Nat)(v:Value)(p:PV),vs[i]? = some v->l[i]? = some p->RepV C T U V v p) :
  RepV C T U V (if h:vs.toArray.size=1 then vs.toArray[0] else .tuple vs.toArray) (packR l):=by
 by_cases hs:vs.toArray.size=1
 ·rw[dif_pos hs]
  match l,vs,hs,hn,hrep with
  | [q],[v],_,_,hrep=>exact hrep 0 v q rfl rfl
  | [],[v],_,h2,_=>simp at h2
  |_::_::_,[v],_,h2,_=>simp at h2
 ·rw[dif_neg hs]
  have:packR l = .tup l:=by
   match l,hn with
   | [q],h4=>exfalso; apply hs; simp at h4 ⊢; omega
   | [],_=>rfl
   |_::_::_,_=>rfl
  rw[this]
  exact .tup (by simp; omega) (fun i v p hv hp=>hrep i v p (by simpa using hv) hp)
theorem OkI.of_pwpB (hm:P.follows .mixedOrders=true){f:FuncId}{fn:Func}{c:Code}{args:List PV}{st:PS}{Q:PV->PS->Prop}(hf:P.funcs[f]? = some fn)(hb:fn.body=some c)(hent:enters P f=true)
  {bar:Nat->Option Nat} (hfit:fitsC bar (args.length+(fn.ntmps-args.length)) c=true) (h:pwp P ⟨(st.nx,st.nt),bar⟩ c { st with env:=enterEnv 0 args } (outI P fn (st.nx,st.nt) Q)):OkI P f args st Q:=by
 refine⟨hent,fun own S0 w0 w C vals R hsz hrep=>?_⟩
 refine calls_of_wp hf hb ?_
 have hst:Stt own ⟨S0.S,C,st.toks,(· < st.nx),(· < st.nt)⟩ w0 (args.length+(fn.ntmps-args.length)) { st with env:=enterEnv 0 args } { tmps:=vals++Array.replicate (fn.ntmps-vals.size) undef,defers:=[] } w:=by
  refine⟨rfl,by simp[hsz],C,⟨R.frame,R.stable,R.box,R.iter,R.hown,R.hinj,R.tok,R.tbox,R.tinj,R.snew,R.sold,Ext.refl _ _ _ _,R.glob⟩,?_⟩
  intro t p h
  obtain⟨_,h2⟩:=enterEnv_lkp args 0 t p h
  rw[Nat.sub_zero]at h2
  have ht:t<vals.size:=by rw[hsz]; exact(List.getElem?_eq_some_iff.1 h2).1
  have hv:vals[t]? = some vals[t]:=Array.getElem?_eq_getElem ht
  refine⟨vals[t],?_,hrep t _ p hv h2⟩
  show(vals++Array.replicate _ undef)[t]? = _
  rw[Array.getElem?_append_left ht]
  exact hv
 refine wp_mono (pwp_sound hm ⟨fun _ h=>h,fun _ h=>h⟩ c _ _ _ w hfit h hst) ?_
 have fin:∀(s:PS) (a':Act) (w':World),Stt own ⟨S0.S,C,st.toks,(· < st.nx),(· < st.nt)⟩ w0 (args.length+(fn.ntmps-args.length)) s a' w' ->
   (bindO (resAll P s fn.results.toList) fun l=>∃st',Q (packR l) st'/\Weak (st.nx,st.nt) { s with env:=[(0,packR l)] } { st' with env:=[(0,packR l)] }) ->
   a'.defers=[]/\∃v,(results fn a'.tmps).run P w' = .ok v w'/\∃r st' v' C',Q r st'/\Ending.returned v=Ending.returned v'/\Rel own S0 w0 C' (· < st'.nx) (· < st'.nt) st' w' /\
    Ext C C' st.toks st'.toks (· < st.nx) (· < st.nt) (· < st'.nx) (· < st'.nt)/\RepV C' st'.toks (· < st'.nx) (· < st'.nt) v' r:=by
  intro s a' w' ⟨h1,h2,C1,R1,E1⟩ hk
  replace hk:=bindO_elim hk
  obtain⟨l,hl,st',hQ,hw⟩:=hk
  obtain⟨vs,g1,g2,g3⟩:=resAll_sound (P:=P) R1 E1 _ _ hl
  have hrun:(results fn a'.tmps).run P w' = .ok (if h:vs.toArray.size=1 then vs.toArray[0] else .tuple vs.toArray) w':=by
   rw[results_eq,Array.mapM_eq_mapM_toList,Sem.run_bind,Sem.run_map,g1]
   rfl
  have hrep:=packR_rep g2 g3
  generalize (if h:vs.toArray.size=1 then vs.toArray[0] else .tuple vs.toArray)=v at hrun hrep
  have hs1:Stt own ⟨S0.S,C,st.toks,(· < st.nx),(· < st.nt)⟩ w0 1 { s with env:=[(0,packR l)] } { tmps:= #[v],defers:=[] } w':=by
   refine⟨rfl,rfl,C1,R1.env_ _,?_⟩
   intro t p h
   simp only[lkp]at h
   split at h
   ·rename_i e
    subst e
    obtain rfl:=Option.some.inj h
    exact⟨v,rfl,hrep⟩
   ·cases h
  obtain⟨_,_,C2,R2,E2⟩:=hs1.weak ⟨fun _ h=>h,fun _ h=>h⟩ hw
  obtain⟨u,hu,hr⟩:=E2 0 (packR l) (by simp[lkp])
  have hu':u=v:=by simpa using hu.symm
  subst hu'
  refine⟨h1,u,hrun,packR l,st',u,C2,hQ,rfl,?_,R2.base,hr⟩
  have R3:=R2.env_ st'.env
  exact⟨R3.frame,R3.stable,R3.box,R3.iter,R3.hown,R3.hinj,R3.tok,R3.tbox,R3.tinj,R3.snew,R3.sold,R.base.trans R2.base,R.glob⟩
 rintro e a' w' ⟨s,hq,hs⟩
 cases e with
 |normal=>exact fin s a' w' hs hq
 |ret=>exact fin s a' w' hs hq
 |_=>exact hq.elim
theorem OkI.of_pwp (hm:P.follows .mixedOrders=true){f:FuncId}{fn:Func}{c:Code}{args:List PV}{st:PS}{Q:PV->PS->Prop}(hf:P.funcs[f]? = some fn)(hb:fn.body=some c)(hent:enters P f=true)
 (hfit:fitsC noBar (args.length+(fn.ntmps-args.length)) c=true) (h:pwp P ⟨(st.nx,st.nt),noBar⟩ c { st with env:=enterEnv 0 args } (outI P fn (st.nx,st.nt) Q)):OkI P f args st Q:=OkI.of_pwpB hm hf hb hent hfit h
end
end Go.Pw

end
section
namespace Go.Pw
open Go Go.RowKit
set_option linter.unusedVariables false
theorem b_some {α:Type}(x:α)(K:α->Prop):bindO (some x) K=K x:=propext Iff.rfl
theorem i_int (k:IntKind)(i:Int)(K:Int->Prop):intK (.val (.int k i)) K=K i:=propext Iff.rfl
section
variable {P:Program} {L:Lim} {l0:Nat×Nat} {st:PS} {Q:Exit->PS->Prop}
def evS (st:PS)(K:PS->Prop):Prop:=K st
def evN (n:Nat)(K:Nat->Prop):Prop:=K n
theorem evS_eq (st:PS)(K:PS->Prop):evS st K=K st:=propext Iff.rfl
theorem evN_eq (n:Nat)(K:Nat->Prop):evN n K=K n:=propext Iff.rfl
theorem d_nil {ops:Array Oper}{a b i:Nat}{K:PS->Prop}:dops P ops a b i [] st K=evS { st with nx:=a+i,nt:=b+i } K:=propext Iff.rfl
theorem d_plain {ops:Array Oper}{a b i:Nat}{r:List Oper}{K:PS->Prop}{d:Option Tmp}{op:Op}{ty:TypeId}{pos:String}{af:Array Edge} :
 dops P ops a b i (⟨d,op,ty,pos,af,none⟩::r) st K=stepN true P ⟨d,op,ty,pos,af,none⟩ st (a+i) (b+i) fun st'=>evS st' fun st'=>evN (i+1) fun j=>dops P ops a b j r st' K:=propext Iff.rfl
theorem ds_nil {ops:Array Oper}{i:Nat}{K:PS->Prop}:dopsS P ops i [] st K=evN st.nx fun a=>evN st.nt fun b=>evS { st with nx:=a+i,nt:=b+i } K:=propext Iff.rfl
theorem ds_plain {ops:Array Oper}{i:Nat}{r:List Oper}{K:PS->Prop}{d:Option Tmp}{op:Op}{ty:TypeId}{pos:String}{af:Array Edge} :
 dopsS P ops i (⟨d,op,ty,pos,af,none⟩::r) st K=evN st.nx fun a=>evN st.nt fun b=>stepN false P ⟨d,op,ty,pos,af,none⟩ st (a+i) (b+i) fun st'=>evS st' fun st'=>evN (i+1) fun j=>dopsS P ops j r st' K:=propext Iff.rfl
def ifK (b:Bool)(A B:Prop):Prop:=(b=true->A)/\(b=false->B)
def boolK (p:PV)(K:Bool->Prop):Prop:=match p with
 | .val (.bool t)=>K t
 |_=>False
def guardP (t:Bool)(p:PV)(A B:Prop):Prop:=match p with
 | .val (.bool u)=>match t with
  |true=>ifK u A B
  |false=>ifK u B A
 | .tup []=>B
 |_=>False
theorem guardP_t {u:Bool}{A B:Prop}:guardP true (.val (.bool u)) A B=ifK u A B:=propext Iff.rfl
theorem guardP_f {u:Bool}{A B:Prop}:guardP false (.val (.bool u)) A B=ifK u B A:=propext Iff.rfl
theorem guardP_n {t:Bool}{A B:Prop}:guardP t (.tup []) A B=B:=propext Iff.rfl
theorem ifK_true {A B:Prop}:ifK true A B=A:=propext ⟨fun h=>h.1 rfl,fun h=>⟨fun _=>h,fun e=>(by cases e)⟩⟩
theorem ifK_false {A B:Prop}:ifK false A B=B:=propext ⟨fun h=>h.2 rfl,fun h=>⟨fun e=>(by cases e),fun _=>h⟩⟩
theorem ifK_dT {p:Prop} [Decidable p]{A B:Prop}(h:p):ifK (decide p) A B=A:=by rw[decide_eq_true h,ifK_true]
theorem ifK_dF {p:Prop} [Decidable p]{A B:Prop}(h:¬p):ifK (decide p) A B=B:=by rw[decide_eq_false h,ifK_false]
theorem ifK_nT {p:Prop} [Decidable p]{A B:Prop}(h:p):ifK (!decide p) A B=B:=by rw[decide_eq_true h,Bool.not_true,ifK_false]
theorem ifK_nF {p:Prop} [Decidable p]{A B:Prop}(h:¬p):ifK (!decide p) A B=A:=by rw[decide_eq_false h,Bool.not_false,ifK_true]
theorem ifK_split {p:Prop} [Decidable p]{A B:Prop}(ha:p->A)(hb:¬p->B):ifK (decide p) A B:=⟨fun h=>ha (of_decide_eq_true h),fun h=>hb (of_decide_eq_false h)⟩
theorem ifK_nsplit {p:Prop} [Decidable p]{A B:Prop}(ha:¬p->A)(hb:p->B):ifK (!decide p) A B:=⟨fun h=>ha (by simpa using h),fun h=>hb (by simpa using h)⟩
theorem ifK_bsplit {b:Bool}{A B:Prop}(ha:b=true->A)(hb:b=false->B):ifK b A B:=⟨ha,hb⟩
theorem boolK_b {t:Bool}{K:Bool->Prop}:boolK (.val (.bool t)) K=K t:=propext Iff.rfl
theorem d_guard {l:List Oper}{a b i g:Nat}{t:Bool}{r:List Oper}{K:PS->Prop}{d:Option Tmp}{op:Op}{ty:TypeId}{pos:String}{af:Array Edge} :
  dops P l.toArray a b i (⟨d,op,ty,pos,af,some (g,t)⟩::r) st K=bindO ((l[g]?).bind (·.dst)) fun e=>bindO (lkp st.env e) fun p=>guardP t p
   (stepN true P ⟨d,op,ty,pos,af,some (g,t)⟩ st (a+i) (b+i) fun st'=>evS st' fun st'=>evN (i+1) fun j=>dops P l.toArray a b j r st' K)
   (evS (st.kill d) fun st'=>evN (i+1) fun j=>dops P l.toArray a b j r st' K):=by
 rw[<-List.getElem?_toArray]
 simp only[dops,guardK]
 congr 1; funext e; congr 1; funext p
 unfold guardP
 refine propext ?_
 split
 ·rename_i u
  cases t<;>cases u<;>simp only[ifK_true,ifK_false,evS_eq,evN_eq,Option.some.injEq,reduceCtorEq,forall_const,false_implies,ne_eq,not_true_eq_false,not_false_eq_true,true_and,and_true]
 ·simp only[reduceCtorEq,false_implies,ne_eq,not_false_eq_true,forall_const,true_and,evS_eq,evN_eq]
 ·rename_i h1 h2
  first|exact Iff.rfl|(split; exact absurd rfl (h1 _); exact absurd rfl h2; exact Iff.rfl)
theorem ds_guard {l:List Oper}{i g:Nat}{t:Bool}{r:List Oper}{K:PS->Prop}{d:Option Tmp}{op:Op}{ty:TypeId}{pos:String}{af:Array Edge} :
  dopsS P l.toArray i (⟨d,op,ty,pos,af,some (g,t)⟩::r) st K=bindO ((l[g]?).bind (·.dst)) fun e=>bindO (lkp st.env e) fun p=>guardP t p
   (evN st.nx fun a=>evN st.nt fun b=>stepN false P ⟨d,op,ty,pos,af,some (g,t)⟩ st (a+i) (b+i) fun st'=>evS st' fun st'=>evN (i+1) fun j=>dopsS P l.toArray j r st' K)
   (evS (st.kill d) fun st'=>evN (i+1) fun j=>dopsS P l.toArray j r st' K):=by
 rw[<-List.getElem?_toArray]
 simp only[dopsS,guardK]
 congr 1; funext e; congr 1; funext p
 unfold guardP
 refine propext ?_
 split
 ·rename_i u
  cases t<;>cases u<;>simp only[ifK_true,ifK_false,evS_eq,evN_eq,Option.some.injEq,reduceCtorEq,forall_const,false_implies,ne_eq,not_true_eq_false,not_false_eq_true,true_and,and_true]
 ·simp only[reduceCtorEq,false_implies,ne_eq,not_false_eq_true,forall_const,true_and,evS_eq,evN_eq]
 ·rename_i h1 h2
  first|exact Iff.rfl|(split; exact absurd rfl (h1 _); exact absurd rfl h2; exact Iff.rfl)
theorem p_region_t {id:Nat}{l:List Oper}:pwp P ⟨l0,noBar⟩ (.region id l.toArray true) st Q=evS st fun st=>evN st.nx fun a=>evN st.nt fun b=>dops P l.toArray a b 0 l st (Q .normal):=propext Iff.rfl
def evL {α:Type}(l:List α)(K:List α->Prop):Prop:=K l
theorem evL_eq {α:Type}(l:List α)(K:List α->Prop):evL l K=K l:=propext Iff.rfl
theorem p_region_o {id r k:Nat}{l:List Oper}(h:id≠r):pwp P ⟨l0,oneBar r k⟩ (.region id l.toArray true) st Q=evS st fun st=>evN st.nx fun a=>evN st.nt fun b=>dops P l.toArray a b 0 l st (Q .normal):=by
 simp only[pwp,oneBar,if_neg h]; rfl
theorem p_bar {r k:Nat}{l:List Oper}(hb:barOk l.toArray k=true)(h:evS st fun st=>evN st.nx fun a=>evN st.nt fun b=>evL (l.take k) fun l1=>dops P l.toArray a b 0 l1 st fun s=>evS s fun s=>evL ((l.drop k).take 1) fun l2=>dopsS P l.toArray 0 l2 s fun s=>evS s fun s=>evN s.nx fun a=>evN s.nt fun b=>evL (l.drop (k+1)) fun l3=>dops P l.toArray a b (k+1) l3 s (Q .normal)) :
  pwp P ⟨l0,oneBar r k⟩ (.region r l.toArray true) st Q:=by
 obtain⟨⟨o,ho,_⟩,_⟩:=bar_spec hb
 simp only[pwp,oneBar,if_true,if_pos (Array.getElem?_eq_some_iff.1 ho).1]
 exact⟨hb,h⟩
theorem p_expl {r k:Nat}{l:List Oper}(hk:l.length<=k)(h:evS st fun st=>expl P l.toArray l0 st (Q .normal)):pwp P ⟨l0,oneBar r k⟩ (.region r l.toArray true) st Q:=by
 simp only[pwp,oneBar,if_true,if_neg (show ¬k<l.toArray.size by simp; omega)]
 exact h
theorem p_region {id:Nat}{l:List Oper}:pwp P ⟨l0,noBar⟩ (.region id l.toArray false) st Q=evS st fun st=>dopsS P l.toArray 0 l st (Q .normal):=propext Iff.rfl
theorem p_region_b {id r k:Nat}{l:List Oper}(h:id≠r):pwp P ⟨l0,oneBar r k⟩ (.region id l.toArray false) st Q=evS st fun st=>dopsS P l.toArray 0 l st (Q .normal):=by
 have:oneBar r k id=none:=if_neg h
 unfold evS
 simp only[pwp,this]
theorem p_seq {a b:Code}:pwp P L (.seq a b) st Q=pwp P L a st fun x st'=>match x with
 | .normal=>pwp P L b st' Q
 |x=>Q x st':=propext Iff.rfl
theorem p_cond {c:Operand}{t e:Code}:pwp P L (.cond c t e) st Q=bindO (st.ev c) fun p=>boolK p fun b=>ifK b (pwp P L t st Q) (pwp P L e st Q):=propext Iff.rfl
theorem p_block {id:Nat}{c:Code}:pwp P L (.block id c) st Q=pwp P L c st fun x st'=>match x with
 | .exit i=>if i=id then Q .normal st' else Q (.exit i) st'
 |x=>Q x st':=propext Iff.rfl
theorem p_scope {c:Code}:pwp P L (.scope c) st Q=pwp P L c st fun x st'=>match x with
 | .goto _=>False
 |x=>Q x st':=propext Iff.rfl
theorem p_label {l:Nat}:pwp P L (.label l) st Q=Q .normal st:=propext Iff.rfl
theorem p_exit {id:Nat}:pwp P L (.exit id) st Q=Q (.exit id) st:=propext Iff.rfl
theorem p_ret:pwp P L .ret st Q=Q .ret st:=propext Iff.rfl
theorem p_skip:pwp P L .skip st Q=Q .normal st:=propext Iff.rfl
theorem p_seq_k {a b:Code}(h:∀K:PS->Prop,(∀st,pwp P L b st Q->K st)->pwp P L a st (fun x st'=>match x with | .normal=>K st'|x=>Q x st')):pwp P L (.seq a b) st Q:=h _ (fun _ h=>h)
theorem p_loop {c:Code}{ι:Type}(I:ι->PS)(m:ι->Nat)(i0:ι)(h0:Weak L.l st (I i0))(h:∀i,pwp P L c (I i) fun x st'=>match x with
 | .normal=>∃j,m j<m i/\Weak L.l st' (I j)
 |x=>Q x st'):pwp P L (.loop c) st Q:=⟨ι,I,m,i0,h0,h⟩
end
section
variable {dr:Bool} {P:Program} {st:PS} {id tk:Nat} {K:PS->Prop} {d:Option Tmp} {ty:TypeId} {pos:String} {af:Array Edge} {g:Option (Nat×Bool)}
theorem s_move {x:Operand}:stepN dr P ⟨d,.move x,ty,pos,af,g⟩ st id tk K=bindO (st.ev x) fun p=>K (st.put d p):=propext Iff.rfl
theorem s_assign {x:Operand}:stepN dr P ⟨d,.assign x,ty,pos,af,g⟩ st id tk K=bindO (st.ev x) fun p=>K (st.put d p):=propext Iff.rfl
theorem s_pick {c a b:Operand}:stepN dr P ⟨d,.pick c a b,ty,pos,af,g⟩ st id tk K=bindO (st.ev c) fun p=>boolK p fun t=>ifK t (bindO (st.ev a) fun p=>K (st.put d p)) (bindO (st.ev b) fun p=>K (st.put d p)):=propext Iff.rfl
theorem s_load {t:TypeId}{x:Operand}:stepN dr P ⟨d,.load t x,ty,pos,af,g⟩ st id tk K=loadK P st t x fun p=>K (st.put d p):=propext Iff.rfl
theorem s_build {t:TypeId}{l:List (Nat×Operand)}:stepN dr P ⟨d,.build t l.toArray,ty,pos,af,g⟩ st id tk K=buildK P st t l fun p=>K (st.put d p):=propext Iff.rfl
theorem s_binOp {op:BinOp}{t u:TypeId}{x y:Operand}:stepN dr P ⟨d,.binOp op t x y u,ty,pos,af,g⟩ st id tk K=binK P st op t x y fun p=>K (st.put d p):=propext Iff.rfl
theorem s_unOp {op:UnOp}{t:TypeId}{x:Operand}:stepN dr P ⟨d,.unOp op t x,ty,pos,af,g⟩ st id tk K=bindO (st.ev x) fun p=>unK op p fun p=>K (st.put d p):=propext Iff.rfl
theorem s_convert {s t:TypeId}{x:Operand}:stepN dr P ⟨d,.convert s t x,ty,pos,af,g⟩ st id tk K=bindO (st.ev x) fun p=>convK P s t p fun p=>K (st.put d p):=propext Iff.rfl
theorem s_slice {t:TypeId}{x:Operand}{lo hi:Option Operand}:stepN dr P ⟨d,.slice t x lo hi none,ty,pos,af,g⟩ st id tk K=sliceK P st t x lo hi fun p=>K (st.put d p):=propext Iff.rfl
theorem s_fieldAddr {t:TypeId}{x:Operand}{f:Nat}:stepN dr P ⟨d,.fieldAddr t x f,ty,pos,af,g⟩ st id tk K=fieldAddrK P st t x f fun p=>K (st.put d p):=propext Iff.rfl
theorem s_field {t:TypeId}{x:Operand}{f:Nat}:stepN dr P ⟨d,.field t x f,ty,pos,af,g⟩ st id tk K=fieldK P st t x f fun p=>K (st.put d p):=propext Iff.rfl
theorem s_indexAddr {t:TypeId}{x i:Operand}:stepN dr P ⟨d,.indexAddr t x i,ty,pos,af,g⟩ st id tk K=indexAddrK P st t x i fun p=>K (st.put d p):=propext Iff.rfl
theorem s_index {t:TypeId}{x i:Operand}:stepN dr P ⟨d,.index t x i,ty,pos,af,g⟩ st id tk K=indexK P st t x i fun p=>K (st.put d p):=propext Iff.rfl
theorem s_extract {x:Operand}{i:Nat}:stepN dr P ⟨d,.extract x i,ty,pos,af,g⟩ st id tk K=bindO (st.ev x) fun p=>match p with
 | .tup cs=>bindO cs[i]? fun p=>K (st.put d p)
 |_=>False:=propext Iff.rfl
theorem s_makeFunc {f:FuncId}{l:List Operand}:stepN dr P ⟨d,.makeFunc (.func f) #[] l.toArray,ty,pos,af,g⟩ st id tk K=bindO (evAll st l) fun cs=>K (st.put d (.fn f cs)):=propext Iff.rfl
theorem s_makeBm {f:FuncId}{x:Operand}{l:List Operand}:stepN dr P ⟨d,.makeFunc (.func f) (x::l).toArray #[],ty,pos,af,g⟩ st id tk K=bindO (evAll st (x::l)) fun cs=>K (st.put d (.bm f cs)):=by
 refine propext ⟨fun h=>?_,fun h=>?_⟩
 ·exact h.2
 ·exact⟨rfl,h⟩
theorem s_makeIface {t:TypeId}{x:Operand}{u:TypeDesc}(hu:P.underlying t=some u)(hn:notIface u=true):stepN dr P ⟨d,.makeInterface t x,ty,pos,af,g⟩ st id tk K=bindO (st.ev x) fun p=>K (st.put d (.iface t p)):=by
 have e:stepN dr P ⟨d,.makeInterface t x,ty,pos,af,g⟩ st id tk K=bindO (P.underlying t) fun u=>notIface u=true/\bindO (st.ev x) fun p=>K (st.put d (.iface t p)):=propext Iff.rfl
 rw[e,hu]
 exact propext ⟨fun h=>h.2,fun h=>⟨hn,h⟩⟩
theorem s_nilCheck {x:Operand}:stepN dr P ⟨d,.nilCheck x,ty,pos,af,g⟩ st id tk K=bindO (st.ev x) fun p=>match p with
 | .ptr _ _=>K (st.put d p)
 | .fp _=>K (st.put d p)
 | .fn _ _=>K (st.put d p)
 |_=>False:=propext Iff.rfl
theorem s_len {x:Operand}{t:TypeId}:stepN dr P ⟨d,.call ⟨.builtin .len, #[x], #[t]⟩,ty,pos,af,g⟩ st id tk K=lenK P st t x fun p=>K (st.put d p):=propext Iff.rfl
theorem s_max {x y:Operand}{ts:Array TypeId}:stepN dr P ⟨d,.call ⟨.builtin .max, #[x,y],ts⟩,ty,pos,af,g⟩ st id tk K=bindO (st.ev x) fun p=>bindO (st.ev y) fun q=>max2K true p q fun p=>K (st.put d p):=propext Iff.rfl
theorem s_min {x y:Operand}{ts:Array TypeId}:stepN dr P ⟨d,.call ⟨.builtin .min, #[x,y],ts⟩,ty,pos,af,g⟩ st id tk K=bindO (st.ev x) fun p=>bindO (st.ev y) fun q=>max2K false p q fun p=>K (st.put d p):=propext Iff.rfl
theorem s_append {x y:Operand}{t t':TypeId}:stepN dr P ⟨d,.call ⟨.builtin .append, #[x,y], #[t,t']⟩,ty,pos,af,g⟩ st id tk K=appendK P st tk ⟨.builtin .append, #[x,y], #[t,t']⟩ fun δ=>K (δ.apply d st):=propext Iff.rfl
theorem s_call {f:Operand}{l:List Operand}{ts:Array TypeId}:stepN dr P ⟨d,.call ⟨.value f,l.toArray,ts⟩,ty,pos,af,g⟩ st id tk K=bindO (st.ev f) fun pf=>match pf with
 | .fn g caps=>bindO (evAll st l) fun ags=>CallOk dr P g (ags++caps) st id tk fun p st'=>K (st'.put d p)
 | .bm g fs=>bindO (evAll st l) fun ags=>dr=false/\BmOk P g (fs++ags) st id tk fun p st'=>K (st'.put d p)
 |_=>False:=propext Iff.rfl
theorem s_invoke {x:Operand}{m:String}{l:List Operand}{ts:Array TypeId}:stepN dr P ⟨d,.call ⟨.invoke x m,l.toArray,ts⟩,ty,pos,af,g⟩ st id tk K=bindO (st.ev x) fun p=>match p with
 | .iface T (.ptr i off)=>bindO (evAll st l) fun ags=>dr=false/\InvOk P T m i off ags st id tk fun p st'=>K (st'.put d p)
 |_=>False:=propext Iff.rfl
theorem s_alloc {T:TypeId}:stepN dr P ⟨d,.alloc T,ty,pos,af,g⟩ st id tk K=bindO (zeroOf? P T) fun z=>constOk z=true/\K (PS.put { st with heap:=(id,.box T (constPV z).cells)::st.heap } d (.ptr id 0)):=propext Iff.rfl
theorem s_allocC {T:TypeId}{z:Value}{cs:List PV}(hz:zeroOf? P T=some z)(hc:constOk z=true)(hp:(constPV z).cells=cs):stepN dr P ⟨d,.alloc T,ty,pos,af,g⟩ st id tk K=K (PS.put { st with heap:=(id,.box T cs)::st.heap } d (.ptr id 0)):=by
 rw[s_alloc,hz,b_some,hp]
 exact propext ⟨fun h=>h.2,fun h=>⟨hc,h⟩⟩
theorem s_box {T:TypeId}{x:Operand}:stepN dr P ⟨d,.box T x,ty,pos,af,g⟩ st id tk K=bindO (st.ev x) fun p=>notTup p=true/\K (PS.put { st with heap:=(id,.box T p.cells)::st.heap } d (.ptr id 0)):=propext Iff.rfl
theorem s_store {t:TypeId}{x y:Operand}:stepN dr P ⟨d,.store t x y,ty,pos,af,g⟩ st id tk K=bindO (st.ev x) fun p=>bindO (st.ev y) fun q=>match p with
 | .ptr id1 off=>bindO (lkp st.heap id1) fun ob=>match ob with
  | .box T cs=>sizeOf? P t=some q.cells.length/\notTup q=true/\off+q.cells.length<=cs.length /\
   K (PS.kill { st with heap:=upd st.heap id1 (.box T (cs.take off++q.cells++cs.drop (off+q.cells.length))) } d)
  |_=>False
 |_=>False:=propext Iff.rfl
theorem s_buildSlice {t e:TypeId}{n sz:Nat}{z:Value}{l:List (Nat×Operand)}(hu:P.underlying t=some (.slice e))(hs:sizeOf? P e=some sz)(hz:zeroOf? P e=some z)(h0:0<sz)(hzs:z.cells.size=sz) :
  stepN dr P ⟨d,.buildSlice t n l.toArray,ty,pos,af,g⟩ st id tk K=bindO (evParts st l) fun ps=>bindO (valsOf ps 0) fun xs=>(∀x∈xs,x.length=sz)/\xs.length=n/\n*sz<=16777216/\K (PS.put { st with toks:=upd st.toks tk ⟨e,sz,n⟩ } d (.row tk xs)):=by
 refine propext ⟨fun h=>?_,fun h=>?_⟩
 ·simp only[stepN,stepN0,stepD,hu,hs,hz,b_some]at h
  replace h:=bindO_elim h
  obtain⟨ps,hps,h⟩:=h
  replace h:=bindO_elim h
  obtain⟨xs,hxs,_,_,h1,h2,h3,h4⟩:=h
  rw[show evParts st l=some ps from hps,b_some,hxs,b_some]
  exact⟨h1,h2,h3,h4⟩
 ·replace h:=bindO_elim h
  obtain⟨ps,hps,h⟩:=h
  replace h:=bindO_elim h
  obtain⟨xs,hxs,h1,h2,h3,h4⟩:=h
  simp only[stepN,stepN0,stepD,hu,hs,hz,b_some,hps,hxs]
  exact⟨h0,hzs,h1,h2,h3,h4⟩
end
section
variable {P:Program} {st:PS} {K:PV->Prop}
def lenP (K:PV->Prop):PV->Prop
 | .sl xs=>K (.val (.int .i64 xs.length))
 | .row _ xs=>K (.val (.int .i64 xs.length))
 | .val (.slice none 0 0)=>K (.val (.int .i64 0))
 | .ms _ _ m _=>K (.val (.int .i64 m))
 |_=>False
theorem len_slice {t e:TypeId}{x:Operand}(hu:P.underlying t=some (.slice e)):lenK P st t x K=bindO (st.ev x) (lenP K):=by
 unfold lenK
 rw[hu]
 cases st.ev x with
 |none=>rfl
 |some p=>simp only[b_some]; rfl
def lenS (K:PV->Prop):PV->Prop
 | .val (.string s)=>K (.val (.int .i64 s.size))
 |_=>False
theorem len_string {t:TypeId}{x:Operand}(hu:P.underlying t=some .string):lenK P st t x K=bindO (st.ev x) (lenS K):=by
 unfold lenK
 rw[hu]
 cases st.ev x with
 |none=>rfl
 |some p=>simp only[b_some]; rfl
theorem len_array {t e:TypeId}{n:Nat}{x:Operand}(hu:P.underlying t=some (.array n e)):lenK P st t x K=K (.val (.int .i64 n)):=by
 unfold lenK
 rw[hu]
def ixP (n:Nat)(i:Int)(K:PV->Prop):PV->Prop
 | .sl xs=>0<=i/\i<xs.length/\(xs.getD i.toNat []).length=n/\K (.fp (xs.getD i.toNat []))
 | .row _ xs=>0<=i/\i<xs.length/\(xs.getD i.toNat []).length=n/\K (.fp (xs.getD i.toNat []))
 | .ms id l0 m _=>0<=i/\i<m/\K (.ptr id (l0+i.toNat*n))
 |_=>False
theorem ix_slice {t e:TypeId}{n:Nat}{x y:Operand}(hu:P.underlying t=some (.slice e))(hs:sizeOf? P e=some n):indexAddrK P st t x y K=bindO (st.ev x) fun p=>bindO (st.ev y) fun q=>intK q fun i=>ixP n i K p:=by
 unfold indexAddrK
 rw[hu]
 simp only[hs,b_some]
 cases st.ev x with
 |none=>rfl
 |some p=>simp only[b_some]; rfl
def ixA (n m:Nat)(i:Int)(K:PV->Prop):PV->Prop
 | .ptr id off=>0<=i/\i<m/\K (.ptr id (off+i.toNat*n))
 |_=>False
theorem ix_array {t e:TypeId}{n m:Nat}{x y:Operand}(hu:P.underlying t=some (.array m e))(hs:sizeOf? P e=some n):indexAddrK P st t x y K=bindO (st.ev x) fun p=>bindO (st.ev y) fun q=>intK q fun i=>ixA n m i K p:=by
 unfold indexAddrK
 rw[hu]
 simp only[hs,b_some]
 cases st.ev x with
 |none=>rfl
 |some p=>simp only[b_some]; rfl
def ixS (i:Int)(K:PV->Prop):PV->Prop
 | .val (.string s)=>0<=i/\i<s.size/\K (.val (.int .u8 (bt s i)))
 |_=>False
theorem ix_string {t:TypeId}{x y:Operand}(hu:P.underlying t=some .string):indexK P st t x y K=bindO (st.ev x) fun p=>bindO (st.ev y) fun q=>intK q fun i=>ixS i K p:=by
 unfold indexK
 rw[hu]
 cases st.ev x with
 |none=>rfl
 |some p=>simp only[b_some]; rfl
def loadP (P:Program)(t:TypeId)(st:PS)(K:PV->Prop):PV->Prop
 | .ptr id off=>bindO (lkp st.heap id) fun o=>match o with
  | .box _ cs=>bindO (readCells P t cs off) K
  |_=>False
 | .fp cs=>bindO (readCells P t cs 0) K
 |_=>False
theorem load_ {t:TypeId}{x:Operand}:loadK P st t x K=bindO (st.ev x) (loadP P t st K):=by
 unfold loadK
 cases st.ev x with
 |none=>rfl
 |some p=>simp only[b_some]; rfl
theorem load_ptr {t:TypeId}{id off:Nat}:loadP P t st K (.ptr id off)=bindO (lkp st.heap id) fun o=>match o with
 | .box _ cs=>bindO (readCells P t cs off) K
 |_=>False:=propext Iff.rfl
theorem load_fp {t:TypeId}{cs:List PV}:loadP P t st K (.fp cs)=bindO (readCells P t cs 0) K:=propext Iff.rfl
theorem rd_one {t:TypeId}{cs:List PV}{off:Nat}(h:aggT P t=some false):readCells P t cs off=cs[off]? :=by
 unfold readCells
 rw[h]
theorem rd_agg {t:TypeId}{cs:List PV}{off n:Nat}(h:aggT P t=some true)(hs:sizeOf? P t=some n):readCells P t cs off=if off+n<=cs.length then some (.agg ((cs.drop off).take n)) else none:=by
 unfold readCells
 rw[h]
 simp only[hs]
def slcP (n:Nat)(st:PS)(lo hi:Option Operand)(K:PV->Prop):PV->Prop
 | .sl xs=>boundsK st lo hi xs.length fun l h=>(lo=none∨∀x∈xs,x.length=n)/\K (.sl ((xs.take h).drop l))
 | .row _ xs=>boundsK st lo hi xs.length fun l h=>(lo=none∨∀x∈xs,x.length=n)/\K (.sl ((xs.take h).drop l))
 | .val (.slice none 0 0)=>boundsK st lo hi 0 fun l h=>K (.val (.slice none 0 0))
 | .ms id l0 m cap=>boundsK st lo hi m fun l h=>lo=none/\K (.ms id l0 h cap)
 |_=>False
theorem slc_slice {t e:TypeId}{n:Nat}{x:Operand}{lo hi:Option Operand}(hu:P.underlying t=some (.slice e))(hs:sizeOf? P e=some n):sliceK P st t x lo hi K=bindO (st.ev x) (slcP n st lo hi K):=by
 unfold sliceK
 rw[hu]
 simp only[hs,b_some]
 cases st.ev x with
 |none=>rfl
 |some p=>simp only[b_some]; rfl
def slcS (st:PS)(lo hi:Option Operand)(K:PV->Prop):PV->Prop
 | .val (.string s)=>boundsK st lo hi s.size fun l h=>K (.val (.string (s.extract l h)))
 |_=>False
theorem slc_string {t:TypeId}{x:Operand}{lo hi:Option Operand}(hu:P.underlying t=some .string):sliceK P st t x lo hi K=bindO (st.ev x) (slcS st lo hi K):=by
 unfold sliceK
 rw[hu]
 cases st.ev x with
 |none=>rfl
 |some p=>simp only[b_some]; rfl
theorem bd_nn {len:Nat}{K:Nat->Nat->Prop}:boundsK st none none len K=K 0 len:=propext Iff.rfl
theorem bd_sn {l:Operand}{len:Nat}{K:Nat->Nat->Prop}:boundsK st (some l) none len K=bindO (st.ev l) fun p=>intK p fun i=>0<=i/\i<=len/\K i.toNat len:=propext Iff.rfl
theorem bd_ns {h:Operand}{len:Nat}{K:Nat->Nat->Prop}:boundsK st none (some h) len K=bindO (st.ev h) fun q=>intK q fun j=>0<=j/\j<=len/\K 0 j.toNat:=propext Iff.rfl
theorem bd_ss {l h:Operand}{len:Nat}{K:Nat->Nat->Prop}:boundsK st (some l) (some h) len K=bindO (st.ev l) fun p=>intK p fun i=>bindO (st.ev h) fun q=>intK q fun j=>0<=i/\i<=j/\j<=len/\K i.toNat j.toNat:=propext Iff.rfl
def fldP (off:Nat)(K:PV->Prop):PV->Prop
 | .ptr id o=>K (.ptr id (o+off))
 | .fp cs=>K (.fp (cs.drop off))
 |_=>False
theorem fld_ {s:TypeId}{fs:Array Field}{fd:Field}{n f:Nat}{x:Operand}(hu:P.underlying s=some (.struct fs))(hf:fs[f]? = some fd)(hs:sizeOf? P fd.type=some n)(hn:n≠0) :
  fieldAddrK P st s x f K=bindO (st.ev x) (fldP fd.offset K):=by
 unfold fieldAddrK
 rw[hu]
 simp only[hf,b_some,hs]
 refine propext ⟨fun h=>?_,fun h=>⟨hn,?_⟩⟩
 ·cases hx:st.ev x with
  |none=>rw[hx]at h; exact h.2
  |some p=>rw[hx]at h; exact h.2
 ·cases hx:st.ev x with
  |none=>rw[hx]at h; exact h
  |some p=>rw[hx]at h; exact h
def fieldP (P:Program)(t:TypeId)(off:Nat)(K:PV->Prop):PV->Prop
 | .agg cs=>bindO (readCells P t cs off) K
 |_=>False
theorem field_ {s:TypeId}{fs:Array Field}{fd:Field}{f:Nat}{x:Operand}(hu:P.underlying s=some (.struct fs))(hf:fs[f]? = some fd) :
  fieldK P st s x f K=bindO (st.ev x) (fieldP P fd.type fd.offset K):=by
 unfold fieldK
 rw[hu]
 simp only[hf,b_some]
 cases st.ev x with
 |none=>rfl
 |some p=>simp only[b_some]; rfl
theorem fieldP_agg {t:TypeId}{off:Nat}{K:PV->Prop}{cs:List PV}:fieldP P t off K (.agg cs)=bindO (readCells P t cs off) K:=propext Iff.rfl
theorem s_makeSlice {dr:Bool}{id tk:Nat}{K:PS->Prop}{d:Option Tmp}{ty:TypeId}{pos:String}{af:Array Edge}{g:Option (Nat×Bool)}{t e:TypeId}{l c:Operand}{sz by_:Nat}{z:Value}{zc:List PV}
  (hu:P.underlying t=some (.slice e)) (hs:sizeOf? P e=some sz) (hb:bytesOf? P e=some by_) (hz:zeroOf? P e=some z) (hc:constOk z=true) (hzs:z.cells.size=sz) (h0:0<sz) (hzc:(constPV z).cells=zc) :
  stepN dr P ⟨d,.makeSlice t l c,ty,pos,af,g⟩ st id tk K=bindO (st.ev l) fun p=>bindO (st.ev c) fun q=>intK p fun n=>intK q fun m=>n=m/\0<=n/\n<=9223372036854775807/\by_*n<=281474976710656 /\
   K (PS.put { st with heap:=(id,.box e ((List.range (n.toNat*sz)).map fun i=>zc.getD (i%sz) (.val .nilIface)))::st.heap } d (.ms id 0 n.toNat n.toNat)):=by
 subst hzc
 refine propext ⟨fun h=>?_,fun h=>?_⟩
 ·simp only[stepN,stepN0,stepD,hu,hs,hb,hz,b_some]at h
  replace h:=bindO_elim h
  obtain⟨p,hp,h⟩:=h
  replace h:=bindO_elim h
  obtain⟨q,hq,h⟩:=h
  rw[hp,b_some,hq,b_some]
  unfold intK at h ⊢
  split at h
  ·split at h
   ·obtain⟨_,_,_,h1,h2,h3,h4,h5⟩:=h
    exact⟨h1,h2,h3,h4,h5⟩
   ·exact h.elim
  ·exact h.elim
 ·replace h:=bindO_elim h
  obtain⟨p,hp,h⟩:=h
  replace h:=bindO_elim h
  obtain⟨q,hq,h⟩:=h
  simp only[stepN,stepN0,stepD,hu,hs,hb,hz,b_some,hp,hq]
  unfold intK at h ⊢
  split at h
  ·split at h
   ·obtain⟨h1,h2,h3,h4,h5⟩:=h
    exact⟨hc,hzs,h0,h1,h2,h3,h4,h5⟩
   ·exact h.elim
  ·exact h.elim
theorem build_ {t:TypeId}{fs:Array Field}{z:Value}{pl:List (Nat×Nat)}{l:List (Nat×Operand)}(hu:P.underlying t=some (.struct fs))(hz:zeroOf? P t=some z)(hp:placesOf P fs.toList=some pl)(hc:constOk z=true) :
  buildK P st t l K=bindO (evParts st l) fun ps=>(ps.all fun e=>match e.2 with | .tup _=>false|_=>true)=true/\bindO (fillP (fun i=>pl[i]?) (constPV z).cells ps) fun cs=>K (.agg cs):=by
 unfold buildK
 rw[hu]
 simp only[hz,b_some,hp,hc,true_and]
 rfl
end
theorem wrap64 {x:Int}(h1 : -9223372036854775808<=x)(h2:x<=9223372036854775807):IntKind.wrap .i64 x=x:=by
 rw[IntKind.wrap_i64]; omega
theorem wrap8 {x:Int}(h1:0<=x)(h2:x<=255):IntKind.wrap .u8 x=x:=by
 rw[IntKind.wrap_u8]; omega
theorem wrap32 {x:Int}(h1 : -2147483648<=x)(h2:x<=2147483647):IntKind.wrap .i32 x=x:=by
 rw[IntKind.wrap_i32]; omega
theorem buildC {P:Program}{st:PS}{K:PV->Prop}{t:TypeId}{fs:Array Field}{z:Value}{pl:List (Nat×Nat)}{l:List (Nat×Operand)}{cs0:List PV}(hu:P.underlying t=some (.struct fs))(hz:zeroOf? P t=some z)(hp:placesOf P fs.toList=some pl)(hc:constOk z=true)(hcs:(constPV z).cells=cs0) :
  buildK P st t l K=bindO (evParts st l) fun ps=>(ps.all fun e=>match e.2 with | .tup _=>false|_=>true)=true/\bindO (fillP (fun i=>pl[i]?) cs0 ps) fun cs=>K (.agg cs):=by
 rw[build_ hu hz hp hc,hcs]
theorem buildA {P:Program}{st:PS}{K:PV->Prop}{t e:TypeId}{m n:Nat}{z:Value}{l:List (Nat×Operand)}{cs0:List PV}(hu:P.underlying t=some (.array m e))(hz:zeroOf? P t=some z)(hs:sizeOf? P e=some n)(hc:constOk z=true)(hcs:(constPV z).cells=cs0) :
  buildK P st t l K=bindO (evParts st l) fun ps=>(ps.all fun e=>match e.2 with | .tup _=>false|_=>true)=true/\bindO (fillP (fun i=>some (i*n,n)) cs0 ps) fun cs=>K (.agg cs):=by
 unfold buildK
 rw[hu]
 simp only[hz,b_some,hs,hc,true_and,hcs]
 rfl
def appT (e:TypeId)(sz by_:Nat)(st:PS)(tk0:Nat)(K:Delta->Prop)(d:PV):List (List PV)->Prop
 | []=>sliceLike d=true/\K (.val d)
 |y0::r=>match d with
  | .val (.slice none 0 0)=>(y0::r).length*by_<=140737488355328/\(y0::r).length<=9223372036854775807 /\
   K ⟨none,some (tk0,⟨e,sz,(y0::r).length⟩),some (.row tk0 (y0::r))⟩
  | .row k xs=>bindO (lkp st.toks k) fun tk=>tk.n=xs.length/\tk.e=e/\tk.sz=sz/\(xs.length+(y0::r).length)*by_<=140737488355328/\xs.length+(y0::r).length<=9223372036854775807 /\
   K ⟨none,some (k,⟨e,sz,xs.length+(y0::r).length⟩),some (.row k (xs++(y0::r)))⟩
  | .ms id lo n cap=>n=cap/\bindO (srcXs st sz (.ms id lo n cap)) fun xs0=>bindO (fzLL xs0) fun xs=>(∀x∈xs,x.length=sz)/\(xs.length+(y0::r).length)*by_<=140737488355328/\xs.length+(y0::r).length<=9223372036854775807 /\
   K ⟨none,some (tk0,⟨e,sz,xs.length+(y0::r).length⟩),some (.row tk0 (xs++(y0::r)))⟩
  |_=>False
theorem appTail_eq {st:PS}{tk0 sz by_:Nat}{e:TypeId}{d:PV}{ys:List (List PV)}{K:Delta->Prop}:appTail st tk0 e sz by_ d ys K=appT e sz by_ st tk0 K d ys:=by
 cases ys<;>rfl
theorem append_t {P:Program}{st:PS}{t e:TypeId}{sz by_ tk:Nat}{z:Value}{x y:Operand}{K:Delta->Prop}(hu:P.underlying t=some (.slice e))(hs:sizeOf? P e=some sz)(hb:bytesOf? P e=some by_)(hz:zeroOf? P e=some z)(hzs:z.cells.size=sz)(h0:0<sz) :
  appendK P st tk ⟨.builtin .append, #[x,y], #[t,t]⟩ K=bindO (st.ev x) fun d=>bindO (st.ev y) fun s=>bindO (srcXs st sz s) fun ys0=>bindO (fzLL ys0) fun ys=>(∀y∈ys,y.length=sz)/\appT e sz by_ st tk K d ys:=by
 unfold appendK
 refine propext ⟨fun h=>?_,fun h=>?_⟩
 ·simp only[hu,hs,hb,hz,b_some]at h
  obtain⟨_,_,h⟩:=h
  replace h:=bindO_elim h
  obtain⟨d,hd,h⟩:=h
  replace h:=bindO_elim h
  obtain⟨s,hs',h⟩:=h
  rw[hd,b_some,hs',b_some]
  split at h
  ·cases h.1
  ·obtain⟨_,h⟩:=h
   replace h:=bindO_elim h
   obtain⟨ys0,h1,h⟩:=h
   replace h:=bindO_elim h
   obtain⟨ys,h2,h3,h⟩:=h
   rw[h1,b_some,h2,b_some]
   exact⟨h3,appTail_eq▸h⟩
 ·simp only[hu,hs,hb,hz,b_some]
  refine⟨hzs,h0,?_⟩
  replace h:=bindO_elim h
  obtain⟨d,hd,h⟩:=h
  replace h:=bindO_elim h
  obtain⟨s,hs',h⟩:=h
  rw[hd,b_some,hs',b_some]
  replace h:=bindO_elim h
  obtain⟨ys0,h1,h⟩:=h
  split
  ·cases h1
  ·refine⟨trivial,?_⟩
   replace h:=bindO_elim h
   obtain⟨ys,h2,h3,h⟩:=h
   rw[h1,b_some,h2,b_some]
   exact⟨h3,appTail_eq▸h⟩
def appS (e:TypeId)(by_:Nat)(st:PS)(tk0:Nat)(K:Delta->Prop)(d:PV):PV->Prop
 | .val (.string s)=>appT e 1 by_ st tk0 K d (encS s)
 |_=>False
theorem append_s {P:Program}{st:PS}{t t' e:TypeId}{by_ tk:Nat}{x y:Operand}{K:Delta->Prop}(hu:P.underlying t=some (.slice e))(hu':P.underlying t'=some .string)(hs:sizeOf? P e=some 1)(hb:bytesOf? P e=some by_)(hz:zeroOf? P e=some (.int .u8 0)) :
  appendK P st tk ⟨.builtin .append, #[x,y], #[t,t']⟩ K=bindO (st.ev x) fun d=>bindO (st.ev y) fun s=>appS e by_ st tk K d s:=by
 have hne:t≠t':=fun h=>by rw[<-h,hu]at hu'; cases hu'
 unfold appendK
 refine propext ⟨fun h=>?_,fun h=>?_⟩
 ·simp only[hu,hs,hb,hz,b_some]at h
  obtain⟨_,_,h⟩:=h
  replace h:=bindO_elim h
  obtain⟨d,hd,h⟩:=h
  replace h:=bindO_elim h
  obtain⟨s,hs',h⟩:=h
  rw[hd,b_some,hs',b_some]
  split at h
  ·have h:=h.2.2.2
   rw[appTail_eq]at h
   exact h
  ·exact absurd h.1 hne
 ·simp only[hu,hs,hb,hz,b_some]
  refine⟨rfl,by decide,?_⟩
  replace h:=bindO_elim h
  obtain⟨d,hd,h⟩:=h
  replace h:=bindO_elim h
  obtain⟨s,hs',h⟩:=h
  rw[hd,b_some,hs',b_some]
  unfold appS at h
  split at h
  ·exact⟨hu',trivial,trivial,appTail_eq▸h⟩
  ·exact h.elim
def rngP (id:Nat)(d:Option Tmp)(st:PS)(K:PS->Prop):PV->Prop
 | .val (.string s)=>K (PS.put { st with heap:=(id,.iter s 0)::st.heap } d (.ptr id 0))
 |_=>False
theorem s_range {dr:Bool}{P:Program}{st:PS}{id tk:Nat}{K:PS->Prop}{d:Option Tmp}{ty:TypeId}{pos:String}{af:Array Edge}{g:Option (Nat×Bool)}{t:TypeId}{x:Operand}(hu:P.underlying t=some .string) :
  stepN dr P ⟨d,.range t x,ty,pos,af,g⟩ st id tk K=bindO (st.ev x) (rngP id d st K):=by
 refine propext ⟨fun h=>?_,fun h=>?_⟩
 ·have h2:=h.2
  replace h2:=bindO_elim h2
  obtain⟨p,hp,h2⟩:=h2
  rw[hp,b_some]
  unfold rngP
  split at h2
  ·exact h2
  ·exact h2.elim
 ·refine⟨hu,?_⟩
  replace h:=bindO_elim h
  obtain⟨p,hp,h⟩:=h
  rw[hp,b_some]
  unfold rngP at h
  split at h
  ·exact h
  ·exact h.elim
def nxtP (d:Option Tmp)(st:PS)(K:PS->Prop):PV->Prop
 | .ptr id1 0=>bindO (lkp st.heap id1) fun ob=>match ob with
  | .iter s pos=>ifK (decide (pos<s.size)) (K (PS.put { st with heap:=upd st.heap id1 (.iter s (pos+(Utf8.decode s pos).2)) } d (.tup [.val (.bool true),.val (.int .i64 pos),.val (.int .i32 (Utf8.decode s pos).1)])))
   (K (st.put d (.tup [.val (.bool false)])))
  |_=>False
 |_=>False
theorem s_next {dr:Bool}{P:Program}{st:PS}{id tk:Nat}{K:PS->Prop}{d:Option Tmp}{ty:TypeId}{pos:String}{af:Array Edge}{g:Option (Nat×Bool)}{x:Operand} :
  stepN dr P ⟨d,.next x true,ty,pos,af,g⟩ st id tk K=bindO (st.ev x) (nxtP d st K):=by
 have key:∀(n:Nat) (s:ByteArray) (A B:Prop),((n<s.size->A)/\(s.size<=n->B))=ifK (decide (n<s.size)) A B:=fun n s A B=>by
  unfold ifK
  simp only[decide_eq_true_eq,decide_eq_false_iff_not,Nat.not_lt]
 refine propext ⟨fun h=>?_,fun h=>?_⟩
 ·replace h:=bindO_elim h
  obtain⟨p,hp,h⟩:=h
  rw[hp,b_some]
  unfold nxtP
  split at h
  ·replace h:=bindO_elim h
   obtain⟨ob,hob,h⟩:=h
   simp only
   rw[hob,b_some]
   split at h
   ·simp only
    rw[<-key]
    exact h
   ·exact h.elim
  ·exact h.elim
 ·replace h:=bindO_elim h
  obtain⟨p,hp,h⟩:=h
  show bindO (st.ev x) _
  rw[hp,b_some]
  unfold nxtP at h
  split at h
  ·replace h:=bindO_elim h
   obtain⟨ob,hob,h⟩:=h
   simp only
   rw[hob,b_some]
   split at h
   ·simp only
    rw[<-key]at h
    exact h
   ·exact h.elim
  ·exact h.elim
theorem tok_T {c:Prop} [Decidable c]{a b:Option Tok}(h:c):(if c then a else b)=a:=if_pos h
theorem tok_F {c:Prop} [Decidable c]{a b:Option Tok}(h:¬c):(if c then a else b)=b:=if_neg h
theorem toks_T {c:Prop} [Decidable c]{a b:List (Nat×Tok)}(h:c):(if c then a else b)=a:=if_pos h
theorem toks_F {c:Prop} [Decidable c]{a b:List (Nat×Tok)}(h:¬c):(if c then a else b)=b:=if_neg h
theorem ob_T {c:Prop} [Decidable c]{a b:Option PObj}(h:c):(if c then a else b)=a:=if_pos h
theorem ob_F {c:Prop} [Decidable c]{a b:Option PObj}(h:¬c):(if c then a else b)=b:=if_neg h
theorem obs_T {c:Prop} [Decidable c]{a b:List (Nat×PObj)}(h:c):(if c then a else b)=a:=if_pos h
theorem obs_F {c:Prop} [Decidable c]{a b:List (Nat×PObj)}(h:¬c):(if c then a else b)=b:=if_neg h
theorem and_dT {p q:Prop}(h:p):(p/\q)=q:=propext ⟨fun h=>h.2,fun k=>⟨h,k⟩⟩
theorem CallOk.of {dr:Bool}{P:Program}{g:FuncId}{ags as':List PV}{st:PS}{id tk:Nat}{r:PV}{K:PV->PS->Prop}(ok:Ok P g as' r)(hf:fzAs ags=some as')(k:K r st):CallOk dr P g ags st id tk K:= .pure as' r hf ok k
theorem OkI.env_ {P:Program}{f:FuncId}{args:List PV}{st:PS}{Q:PV->PS->Prop}(h:OkI P f args st Q)(e:List (Nat×PV)):OkI P f args { st with env:=e } Q:=
 ⟨h.1,fun own S0 w0 w C vals R hn hr=>h.2 own S0 w0 w C vals (R.env_ st.env) hn hr⟩
theorem CallOk.ofI {P:Program}{g:FuncId}{ags:List PV}{st st0:PS}{id tk:Nat}{Q:PV->PS->Prop}{K:PV->PS->Prop}(ok:OkI P g ags st0 Q)(hh:st0.heap=st.heap)(ht:st0.toks=st.toks)(hx:st0.nx=id)(hy:st0.nt=tk)
  (k:∀r st1,Q r st1->K r { st1 with env:=st.env }):CallOk false P g ags st id tk K:=by
 subst hx hy
 have e:({ st with nx:=st0.nx,nt:=st0.nt }:PS)={ st0 with env:=st.env }:=by cases st; cases st0; simp_all
 exact .own rfl Q (by rw[e]; exact ok.env_ _) k
theorem BmOk.of {P:Program}{ags:List PV}{st st0:PS}{id tk:Nat}{K:PV->PS->Prop}{g:FuncId}{Q:PV->PS->Prop}(ok:OkI P g ags st0 Q)(hh:st0.heap=st.heap)(ht:st0.toks=st.toks)(hx:st0.nx=id)(hy:st0.nt=tk)
  (k:∀r st1,Q r st1->K r { st1 with env:=st.env }):BmOk P g ags st id tk K:=by
 subst hx hy
 have e:({ st with nx:=st0.nx,nt:=st0.nt }:PS)={ st0 with env:=st.env }:=by cases st; cases st0; simp_all
 exact .mk Q (by rw[e]; exact ok.env_ _) k
theorem InvOk.of {P:Program}{T:TypeId}{m:String}{i off:Nat}{ags:List PV}{st st0:PS}{id tk:Nat}{K:PV->PS->Prop}{g:FuncId}{δ:Nat}{Q:PV->PS->Prop}(hd:DispOk P T m g δ)(ok:OkI P g (.ptr i (off+δ)::ags) st0 Q)(hh:st0.heap=st.heap)(ht:st0.toks=st.toks)(hx:st0.nx=id)(hy:st0.nt=tk)
  (k:∀r st1,Q r st1->K r { st1 with env:=st.env }):InvOk P T m i off ags st id tk K:=by
 subst hx hy
 have e:({ st with nx:=st0.nx,nt:=st0.nt }:PS)={ st0 with env:=st.env }:=by cases st; cases st0; simp_all
 exact .mk g δ Q hd (by rw[e]; exact ok.env_ _) k
theorem tdivE {a b:Int}(h:0<=a):a.tdiv b=a/b:=Int.tdiv_eq_ediv_of_nonneg h
theorem tmodE {a b:Int}(h:0<=a):a.tmod b=a%b:=Int.tmod_eq_emod_of_nonneg h
theorem put_some (st:PS)(t:Tmp)(p:PV):st.put (some t) p={ st with env:=(t,p)::st.env }:=rfl
theorem kill_none (st:PS):st.kill none=st:=rfl
theorem kill_some (st:PS)(t:Tmp):st.kill (some t)={ st with env:=(t,.tup [])::st.env }:=rfl
theorem ev_tmp (st:PS)(t:Tmp):st.ev (.tmp t)=lkp st.env t:=rfl
theorem ev_int (st:PS)(k:IntKind)(n:Int):st.ev (.const (.int k n))=some (.val (.int k n)):=rfl
theorem ev_bool (st:PS)(b:Bool):st.ev (.const (.bool b))=some (.val (.bool b)):=rfl
theorem ev_str (st:PS)(s:ByteArray):st.ev (.const (.string s))=some (.val (.string s)):=rfl
theorem ev_nil (st:PS):st.ev (.const (.slice none 0 0))=some (.val (.slice none 0 0)):=rfl
theorem ev_func (st:PS)(f:FuncId):st.ev (.func f)=some (.fn f []):=rfl
def hold {α:Type}(a:α):α:=a
theorem hold_eq {α:Type}(a:α):hold a=a:=by
 have h:hold a=a:=by unfold hold; exact Eq.trans rfl rfl
 exact h.trans (Eq.refl a)
@[congr] theorem bindO_congr {α:Type} {o o':Option α} {K:α->Prop} (h:hold o=o'):bindO o K=bindO o' K:=by rw[<-h]; rfl
@[congr] theorem intK_congr {p p':PV} {K:Int->Prop} (h:hold p=p'):intK p K=intK p' K:=by rw[<-h]; rfl
@[congr] theorem ifK_congr {b b':Bool} {A B:Prop} (h:hold b=b'):ifK b A B=ifK b' A B:=by rw[<-h]; rfl
@[congr] theorem boolK_congr {p p':PV} {K:Bool->Prop} (h:hold p=p'):boolK p K=boolK p' K:=by rw[<-h]; rfl
@[congr] theorem evS_congr {s s':PS} {K:PS->Prop} (h:hold s=s'):evS s K=evS s' K:=by rw[<-h]; rfl
@[congr] theorem evN_congr {s s':Nat} {K:Nat->Prop} (h:hold s=s'):evN s K=evN s' K:=by rw[<-h]; rfl
@[congr] theorem guardP_congr {t:Bool} {p p':PV} {A B:Prop} (h:hold p=p'):guardP t p A B=guardP t p' A B:=by rw[<-h]; rfl
@[congr] theorem CallOk_congr {dr:Bool} {P:Program} {g:FuncId} {ags as':List PV} {st:PS} {id tk:Nat} {K:PV->PS->Prop} (h:hold ags=as'):CallOk dr P g ags st id tk K=CallOk dr P g as' st id tk K:=by rw[<-h]; rfl
@[congr] theorem pwp_congr {P:Program} {L:Lim} {c:Code} {s s':PS} {Q:Exit->PS->Prop} (h:hold s=s'):pwp P L c s Q=pwp P L c s' Q:=by rw[<-h]; rfl
theorem mem_nil_ {α:Type}{p:α->Prop}:(∀x∈([]:List α),p x)=True:=propext ⟨fun _=>trivial,fun _ x h=>by cases h⟩
theorem mem_cons_ {α:Type}{p:α->Prop}{a:α}{l:List α}:(∀x∈a::l,p x)=(p a/\∀x∈l,p x):=propext List.forall_mem_cons
theorem frz_self (p:PV):Frz p p=True:=eq_true (Frz.refl p)
theorem frz1_self (p:PV):Frz1 p p=True:=eq_true (Frz1.refl p)
theorem frzL_self (l:List PV):FrzL l l=True:=eq_true (FrzL.refl l)
theorem frzO_self (o:PObj):FrzO o o=True:=eq_true (FrzO.refl o)
theorem frzO_box {t t':TypeId}{l m:List PV}:FrzO (.box t l) (.box t' m)=(t=t'/\FrzL l m):=propext Iff.rfl
theorem frzO_iter {s s':ByteArray}{i j:Nat}:FrzO (.iter s i) (.iter s' j)=(some (PObj.iter s i)=some (PObj.iter s' j)):=propext Iff.rfl
theorem frzL_cons {p q:PV}{l m:List PV}:FrzL (p::l) (q::m)=(Frz1 p q/\FrzL l m):=propext Iff.rfl
theorem frzL_nil:FrzL [] []=True:=propext Iff.rfl
theorem frz_agg {l m:List PV}:Frz (.agg l) (.agg m)=FrzL l m:=propext Iff.rfl
theorem frz1_row {k:Nat}{xs ys:List (List PV)}:Frz1 (.row k xs) (.sl ys)=(xs=ys):=propext Iff.rfl
theorem frz1_nil {ys:List (List PV)}:Frz1 (.val (.slice none 0 0)) (.sl ys)=(ys=[]):=propext ⟨fun h=>h.2,fun h=>⟨rfl,h⟩⟩
theorem frz1_val {a b:Value}:Frz1 (.val a) (.val b)=(some (PV.val a)=some (PV.val b)):=propext Iff.rfl
theorem frz1_sl {a b:List (List PV)}:Frz1 (.sl a) (.sl b)=(some (PV.sl a)=some (PV.sl b)):=propext Iff.rfl
theorem frz1_rr {k j:Nat}{a b:List (List PV)}:Frz1 (.row k a) (.row j b)=(some (PV.row k a)=some (PV.row j b)):=propext Iff.rfl
theorem frz1_ptr {i o i' o':Nat}:Frz1 (.ptr i o) (.ptr i' o')=(some (PV.ptr i o)=some (PV.ptr i' o')):=propext Iff.rfl
theorem frz1_ms {i o n c i' o' n' c':Nat}:Frz1 (.ms i o n c) (.ms i' o' n' c')=(some (PV.ms i o n c)=some (PV.ms i' o' n' c')):=propext Iff.rfl
theorem frz_val {a:Value}{q:PV}:Frz (.val a) q=Frz1 (.val a) q:=propext Iff.rfl
theorem frz_sl {a:List (List PV)}{q:PV}:Frz (.sl a) q=Frz1 (.sl a) q:=propext Iff.rfl
theorem frz_row {k:Nat}{a:List (List PV)}{q:PV}:Frz (.row k a) q=Frz1 (.row k a) q:=propext Iff.rfl
theorem frz_ptr {i o:Nat}{q:PV}:Frz (.ptr i o) q=Frz1 (.ptr i o) q:=propext Iff.rfl
theorem frz_ms {i o n c:Nat}{q:PV}:Frz (.ms i o n c) q=Frz1 (.ms i o n c) q:=propext Iff.rfl
theorem frz_fp {a b:List PV}:Frz (.fp a) (.fp b)=(some (PV.fp a)=some (PV.fp b)):=propext Iff.rfl
theorem frz_tup {a b:List PV}:Frz (.tup a) (.tup b)=(some (PV.tup a)=some (PV.tup b)):=propext Iff.rfl
theorem frz_bm {f g:FuncId}{a b:List PV}:Frz (.bm f a) (.bm g b)=(some (PV.bm f a)=some (PV.bm g b)):=propext Iff.rfl
theorem frz_fn {f g:FuncId}{a b:List PV}:Frz (.fn f a) (.fn g b)=(some (PV.fn f a)=some (PV.fn g b)):=propext Iff.rfl
end Go.Pw

end
section
namespace Go.Pw
open Go Go.RowKit
set_option linter.unusedVariables false
set_option linter.unusedSimpArgs false
theorem Ok.walk {P:Program}{f:FuncId}{args:List PV}{r:Value}(h:Ok P f args (.val r))(S:Cells)(w:World)(vals:Array Value)(hk:Known w)(hS:Stable S w)(hn:vals.size=args.length)
  (ha:∀(i:Nat) (v:Value) (p:PV),vals[i]? = some v->args[i]? = some p->RepA S v p):Calls P f vals w fun e w'=>e = .returned r/\Below w.heap.size w w':=by
 refine Calls.mono (h.2 S w vals hk hS hn ha) ?_
 rintro e w' ⟨v,S',rfl,_,_,_,hr,hb⟩
 obtain⟨rfl,_⟩:=rep_val hr
 exact⟨rfl,hb⟩
def memCells (w:World):Cells:=fun b o=>w.cell? ⟨b,o,none⟩
theorem memCells_stable (w:World):Stable (memCells w) w:=fun b o v h=>h
def Reps (S:Cells):List Value->List PV->Prop
 | [],[]=>True
 |v::vs,p::ps=>RepA S v p/\Reps S vs ps
 |_,_=>False
theorem Reps.len {S:Cells}:∀{vs:List Value}{ps:List PV},Reps S vs ps->vs.length=ps.length
 | [],[],_=>rfl
 |_::_,_::_,h=>by simp[Reps.len h.2]
 | [],_::_,h=>h.elim
 |_::_,[],h=>h.elim
theorem Reps.get {S:Cells}:∀{vs:List Value}{ps:List PV},Reps S vs ps->∀(i:Nat)(v:Value)(p:PV),vs[i]? = some v->ps[i]? = some p->RepA S v p
 | [],[],_,i,v,p,hv,_=>by simp at hv
 |v0::vs,p0::ps,h,0,v,p,hv,hp=>by
  simp at hv hp
  subst hv hp
  exact h.1
 |_::vs,_::ps,h,i+1,v,p,hv,hp=>Reps.get h.2 i v p (by simpa using hv) (by simpa using hp)
 | [],_::_,h,_,_,_,_,_=>h.elim
 |_::_,[],h,_,_,_,_,_=>h.elim
theorem Ok.walk_reps {P:Program}{f:FuncId}{args:List PV}{r:Value}(h:Ok P f args (.val r))(w:World)(hk:Known w)(vals:List Value)(hr:Reps (memCells w) vals args) :
  Calls P f vals.toArray w fun e w'=>e = .returned r/\Below w.heap.size w w':=
 h.walk (memCells w) w vals.toArray hk (memCells_stable w) (by simp[hr.len]) (fun i v p hv hp=>hr.get i v p (by simpa using hv) hp)
theorem repA_one {S:Cells}{v:Value}(h:v.oneCell'=true):RepA S v (.val v):= .frz (.val h)
end Go.Pw

end
