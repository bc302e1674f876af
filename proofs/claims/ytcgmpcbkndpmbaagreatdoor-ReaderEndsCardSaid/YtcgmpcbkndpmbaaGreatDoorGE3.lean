/-
  Contracts and plain laws on the way to the statement; each says its own conditions.
-/
import Derived.Test.YtcgmpcbkndpmbaaGreatDoorGE2
import Derived.Test.YtcgmpcbkndpmbaaGreatDoorProg
import Derived.Shelf.RegionOpenPlain
import Derived.Lib.Strings
import Derived.Lib.Slices
import Derived.Lib.Walk
import Derived.Lib.Builder
import Derived.Lib.AppendStr
import Derived.Lib.UnsafeStr
import Derived.WalkKit
import Derived.Laws.Externs
section
namespace Go.Pw
open Go Go.RowKit
set_option linter.unusedVariables false
set_option linter.unusedSimpArgs false
section
variable {P:Program} {own:Nat->Prop} {S0:Base} {w0 w:World} {C:Cx} {U V:Nat->Prop} {st:PS}
def fzH (P:Program)(h:List (Nat×PObj)):PV->Option PV
 | .ms id lo n cap=>match lkp h id with
  |some (.box t cs)=>match sizeOf? P t with
   |some sz=>if 0<sz/\lo+n*sz<=cs.length then(fzLL (chunks sz n (cs.drop lo))).map .sl else none
   |none=>none
  |_=>none
 |p=>fz p
def fzHL (P:Program)(h:List (Nat×PObj)):List PV->Option (List PV)
 | []=>some []
 |p::r=>match fzH P h p,fzHL P h r with
  |some q,some l=>some (q::l)
  |_,_=>none
def fzHA (P:Program)(h:List (Nat×PObj)):PV->Option PV
 | .agg cs=>(fzHL P h cs).map .agg
 | .fp cs=>some (.fp cs)
 | .fn f []=>some (.fn f [])
 |p=>fzH P h p
def fzHAs (P:Program)(h:List (Nat×PObj)):List PV->Option (List PV)
 | []=>some []
 |p::r=>match fzHA P h p,fzHAs P h r with
  |some q,some l=>some (q::l)
  |_,_=>none
def outH (P:Program)(fn:Func)(r:PV):Exit->PS->Prop
 | .normal,st=>bindO (resAll P st fn.results.toList) fun l=>bindO (fzHAs P st.heap l) fun l'=>packR l'=r
 | .ret,st=>bindO (resAll P st fn.results.toList) fun l=>bindO (fzHAs P st.heap l) fun l'=>packR l'=r
 |_,_=>False
theorem fzHAs_get {h:List (Nat×PObj)}:∀{l l':List PV},fzHAs P h l=some l'->l.length=l'.length/\∀(i:Nat)(p q:PV),l[i]? = some p->l'[i]? = some q->fzHA P h p=some q
 | [],l',e=>by
  obtain rfl:=Option.some.inj e
  exact⟨rfl,fun i p q hp=>by simp at hp⟩
 |p::r,l',e=>by
  simp only[fzHAs]at e
  split at e
  ·rename_i q l hq hl
   obtain rfl:=Option.some.inj e
   obtain⟨h1,h2⟩:=fzHAs_get hl
   refine⟨by simp[h1],fun i p' q' hp hq'=>?_⟩
   cases i with
   |zero=>simp at hp hq'; subst hp hq'; assumption
   |succ i=>exact h2 i p' q' (by simpa using hp) (by simpa using hq')
  ·cases e
theorem fzHL_get {h:List (Nat×PObj)}:∀{l l':List PV},fzHL P h l=some l'->l.length=l'.length/\∀(i:Nat)(p q:PV),l[i]? = some p->l'[i]? = some q->fzH P h p=some q
 | [],l',e=>by
  obtain rfl:=Option.some.inj e
  exact⟨rfl,fun i p q hp=>by simp at hp⟩
 |p::r,l',e=>by
  simp only[fzHL]at e
  split at e
  ·rename_i q l hq hl
   obtain rfl:=Option.some.inj e
   obtain⟨h1,h2⟩:=fzHL_get hl
   refine⟨by simp[h1],fun i p' q' hp hq'=>?_⟩
   cases i with
   |zero=>simp at hp hq'; subst hp hq'; assumption
   |succ i=>exact h2 i p' q' (by simpa using hp) (by simpa using hq')
  ·cases e
theorem chunks_len (sz n:Nat)(cs:List PV):(chunks sz n cs).length=n:=by simp[chunks]
theorem chunks_get {sz n:Nat}{cs:List PV}{j:Nat}(h:j<n):(chunks sz n cs)[j]? = some ((cs.drop (j*sz)).take sz):=by
 simp[chunks,h]
structure Over (C:Cx) (st:PS) (w:World) (S:Cells):Prop where
 s:SLe C.S S
 b:∀id o,lkp st.heap id=some o->∀i v,w.cell? ⟨C.ρ id,i,none⟩=some v->S (C.ρ id) i=some v
theorem fzH_rep (R:Rel own S0 w0 C U V st w){S:Cells}(hS:Over C st w S){v:Value}{p q:PV}(h:fzH P st.heap p=some q)(r:RepV C st.toks U V v p):RepF S v q:=by
 by_cases hm:∃id lo n cap,p = .ms id lo n cap
 ·obtain⟨id,lo,n,cap,rfl⟩:=hm
  obtain⟨rfl,hU,hc⟩:=rep_ms r
  simp only[fzH]at h
  split at h
  ·rename_i t cs ho
   split at h
   ·rename_i sz hsz
    split at h
    ·rename_i hb
     obtain⟨ys,hy,rfl⟩:=Option.map_eq_some_iff.1 h
     obtain⟨e1,e2⟩:=fzLL_get hy
     rw[chunks_len]at e1
     obtain⟨vs,g1,g2,g3⟩:=R.box id t cs ho
     have cell:∀k,k<cs.length->∃u q',w.cell? ⟨C.ρ id,k,none⟩=some u/\cs[k]? = some q'/\RepV C st.toks U V u q':=fun k hk=>by
      have hk':k<vs.size:=by omega
      have h1:vs[k]? = some vs[k]:=Array.getElem?_eq_getElem hk'
      exact⟨vs[k],cs[k],by rw[cell_of_row w (C.ρ id) k vs t (0,0) g1]; exact h1,List.getElem?_eq_getElem hk,(g3 k _ _ h1 (List.getElem?_eq_getElem hk)).2⟩
     have hlen:∀j,j<n->lo+(j*sz+sz)<=cs.length:=fun j hj=>by
      have:(j+1)*sz<=n*sz:=Nat.mul_le_mul_right _ hj
      rw[Nat.succ_mul]at this
      omega
     refine .sl (sz:=sz) (fun j i=>(w.cell? ⟨C.ρ id,lo+(j*sz+i),none⟩).getD undef) e1.symm hc (fun x hx=>?_) (fun _=>⟨C.ρ id,lo,rfl,fun j i hj hi=>?_⟩) (fun j i x q hx hq=>?_)
     ·obtain⟨j,hj⟩:=List.mem_iff_getElem?.1 hx
      have hjn:j<n:=by have:=(List.getElem?_eq_some_iff.1 hj).1; omega
      have h2:=(fzL_get (e2 j _ x (chunks_get hjn) hj)).1
      rw[<-h2,List.length_take,List.length_drop,List.length_drop]
      have:=hlen j hjn
      omega
     ·have:=hlen j hj
      obtain⟨u,q',h1,_,_⟩:=cell (lo+(j*sz+i)) (by omega)
      have h3:=hS.b id _ ho _ u h1
      rw[h3,h1]; rfl
     ·have hjn:j<n:=by have:=(List.getElem?_eq_some_iff.1 hx).1; omega
      have h2:=fzL_get (e2 j _ x (chunks_get hjn) hx)
      have hi:i<sz:=by
       have:=(List.getElem?_eq_some_iff.1 hq).1
       have h3:=h2.1
       rw[List.length_take]at h3
       omega
      have:=hlen j hjn
      obtain⟨u,q',h1,h4,h5⟩:=cell (lo+(j*sz+i)) (by omega)
      have h6:(((cs.drop lo).drop (j*sz)).take sz)[i]? = some q':=by
       rw[List.getElem?_take,if_pos hi,List.getElem?_drop,List.getElem?_drop]
       exact h4
      rw[h1]
      exact(fz_rep (h2.2 i q' q h6 hq) h5).mono hS.s
    ·cases h
   ·cases h
  ·cases h
 ·have e:fzH P st.heap p=fz p:=by
   cases p<;>first|rfl|exact absurd ⟨_,_,_,_,rfl⟩ hm
  rw[e]at h
  exact(fz_rep h r).mono hS.s
theorem RepF.a {S:Cells}{v:Value}{p:PV}(h:RepF S v p):RepA S v p:= .frz h
theorem fzHA_rep (R:Rel own S0 w0 C U V st w){S:Cells}(hS:Over C st w S){v:Value}{p q:PV}(h:fzHA P st.heap p=some q)(r:RepV C st.toks U V v p):RepA S v q:=by
 unfold fzHA at h
 split at h
 ·obtain⟨qs,hq,rfl⟩:=Option.map_eq_some_iff.1 h
  obtain⟨vs,rfl,hr⟩:=rep_agg r
  obtain⟨h1,h2⟩:=fzHL_get hq
  refine .agg (by have:=hr.1; simp at this; omega) (fun i v p hv hp=>?_) (fun i v hv=>?_)
  ·have hi:i<vs.toList.length:=by have:=(Array.getElem?_eq_some_iff.1 hv).1; simpa using this
   have hp':=List.getElem?_eq_getElem (l:=_) (i:=i) (by rw[hr.1]at hi; exact hi)
   exact .frz (fzH_rep R hS (h2 i _ p hp' hp) (hr.2 i v _ (by simpa using hv) hp').2)
  ·have hi:i<vs.toList.length:=by have:=(Array.getElem?_eq_some_iff.1 hv).1; simpa using this
   have hp':=List.getElem?_eq_getElem (l:=_) (i:=i) (by rw[hr.1]at hi; exact hi)
   exact(hr.2 i v _ (by simpa using hv) hp').1
 ·obtain rfl:=Option.some.inj h
  obtain⟨b,o,rfl,hc⟩:=rep_fp r
  exact .fp (fun i p hp=>by obtain⟨u,h1,h2⟩:=hc i p hp; exact⟨u,hS.s _ _ _ h1,h2.mono hS.s⟩)
 ·obtain rfl:=Option.some.inj h
  obtain⟨vs,rfl,h1,_⟩:=rep_fn r
  exact .fn h1 (fun i v p hv hp=>by simp at hp)
 ·exact .frz (fzH_rep R hS h r)
theorem results_soundH (R:Rel own S0 w0 C U V st w){a:Act}(E:Env C U V st a){S:Cells}(hS:Over C st w S){fn:Func}{l l':List PV}(h:resAll P st fn.results.toList=some l)(hf:fzHAs P st.heap l=some l') :
  ∃v,(results fn a.tmps).run P w = .ok v w/\RepA S v (packR l'):=by
 obtain⟨vs,h1,h2,h3⟩:=resAll_sound (P:=P) R E _ _ h
 obtain⟨h4,h5⟩:=fzHAs_get hf
 have hrun:(results fn a.tmps).run P w = .ok (if h:vs.toArray.size=1 then vs.toArray[0] else .tuple vs.toArray) w:=by
  rw[results_eq,Array.mapM_eq_mapM_toList,Sem.run_bind,Sem.run_map,h1]
  rfl
 refine⟨_,hrun,packR_rep (C:=C0 S) (T:=[]) (by omega) (fun i v q hv hq=>?_)⟩
 have hi:i<l.length:=by rw[h4]; exact(List.getElem?_eq_some_iff.1 hq).1
 have hp:=List.getElem?_eq_getElem hi
 exact fzHA_rep R hS (h5 i _ q hp hq) (h3 i v _ hv hp)
end
section
variable {P:Program}
theorem Ok.of_pwpH (hm:P.follows .mixedOrders=true){f:FuncId}{fn:Func}{c:Code}{args:List PV}{r:PV}(hf:P.funcs[f]? = some fn)(hb:fn.body=some c)(hent:enters P f=true)
  {bar:Nat->Option Nat} (hfit:fitsC bar (args.length+(fn.ntmps-args.length)) c=true) (h:pwp P ⟨(0,0),bar⟩ c (enterPS args) (outH P fn r)):Ok P f args r:=by
 refine⟨hent,fun S w vals hkn hS hsz hrep=>?_⟩
 refine calls_of_wp hf hb ?_
 have hst:Stt Never ⟨S,C0 S,[],Never,Never⟩ w (args.length+(fn.ntmps-args.length)) (enterPS args) { tmps:=vals++Array.replicate (fn.ntmps-vals.size) undef,defers:=[] } w:=by
  refine⟨rfl,by simp[hsz],C0 S,⟨Frame.refl _ _,hS,?_,?_,?_,?_,?_,?_,?_,fun b o v h=> .inl h,SLe.refl _,⟨SLe.refl _,fun _ h=>h.elim,fun _ _ h=>h.elim,fun _ h=>h.elim,fun _ h=>h.elim⟩,⟨hkn.2,hkn.1,fun _ _ h=>h⟩⟩,?_⟩
  ·intro id T cs h; cases h
  ·intro id s pos h; cases h
  ·intro id o h; cases h
  ·intro i j oi oj h; cases h
  ·intro k t h; cases h
  ·intro i oi k t h; cases h
  ·intro i j ti tj h; cases h
  ·intro t p h
   obtain⟨_,h2⟩:=enterEnv_lkp args 0 t p h
   rw[Nat.sub_zero]at h2
   have ht:t<vals.size:=by rw[hsz]; exact(List.getElem?_eq_some_iff.1 h2).1
   have hv:vals[t]? = some vals[t]:=Array.getElem?_eq_getElem ht
   refine⟨vals[t],?_,RepV.ext (C:=C0 S) (C':=C0 S) (T:=[]) (T':=[]) ⟨SLe.refl _,fun _ h=>h.elim,fun _ _ h=>h.elim,fun _ h=>h.elim,fun _ h=>h.elim⟩ (hrep t _ p hv h2)⟩
   show(vals++Array.replicate _ undef)[t]? = _
   rw[Array.getElem?_append_left ht]
   exact hv
 refine wp_mono (pwp_sound (S0:=⟨S,C0 S,[],Never,Never⟩) hm ⟨fun _ h=>False.elim h,fun _ h=>False.elim h⟩ c _ _ _ w hfit h hst) ?_
 have fin:∀(st:PS) (a':Act) (w':World),Stt Never ⟨S,C0 S,[],Never,Never⟩ w (args.length+(fn.ntmps-args.length)) st a' w'->(bindO (resAll P st fn.results.toList) fun l=>bindO (fzHAs P st.heap l) fun l'=>packR l'=r) ->
   a'.defers=[]/\∃v,(results fn a'.tmps).run P w' = .ok v w'/\∃v' S',Ending.returned v=Ending.returned v'/\SLe S S'/\Stable S' w'/\(∀b o u,S' b o=some u->S b o=some u∨w.heap.size<=b)/\RepA S' v' r/\Below w.heap.size w w':=by
  intro st a' w' ⟨h1,h2,C,R,E⟩ hk
  replace hk:=bindO_elim hk
  obtain⟨l,hl,hk⟩:=hk
  replace hk:=bindO_elim hk
  obtain⟨l',hl',rfl⟩:=hk
  let S':Cells:=fun b o=>if w.heap.size<=b then w'.cell? ⟨b,o,none⟩ else S b o
  have hO:Over C st w' S':=by
   refine⟨fun b o v h=>?_,fun id o ho i v hv=>?_⟩
   ·show(if _ then _ else _)=_
    split
    ·exact R.stable b o v h
    ·rcases R.snew b o v h with h|h|h
     ·exact h
     ·exact h.elim
     ·contradiction
   ·show(if _ then _ else _)=_
    rcases(R.hown id o ho).2.2.1 with h|h
    ·exact h.elim
    ·rw[if_pos h]; exact hv
  obtain⟨v,hv,hr⟩:=results_soundH (P:=P) R E hO hl hl'
  refine⟨h1,v,hv,v,S',rfl,fun b o u h=>hO.s _ _ _ (R.sold _ _ _ h),fun b o u h=>?_,fun b o u h=>?_,hr,⟨R.frame.os,R.frame.tape,R.frame.output,R.frame.size,fun k hk=>R.frame.block k hk (fun h=>h)⟩⟩
  ·replace h:(if w.heap.size<=b then w'.cell? ⟨b,o,none⟩ else S b o)=some u:=h
   split at h
   ·exact h
   ·exact R.stable b o u (R.sold _ _ _ h)
  ·replace h:(if w.heap.size<=b then w'.cell? ⟨b,o,none⟩ else S b o)=some u:=h
   split at h
   ·exact .inr ‹_›
   ·exact .inl h
 rintro e a' w' ⟨st,hq,hs⟩
 cases e with
 |normal=>exact fin st a' w' hs hq
 |ret=>exact fin st a' w' hs hq
 |_=>exact hq.elim
theorem Rel.below_ {own:Nat->Prop}{S0:Base}{w0 w w':World}{C:Cx}{U V:Nat->Prop}{st:PS}(R:Rel own S0 w0 C U V st w)(hb:Below w.heap.size w w'):Rel own S0 w0 C U V st w':=by
 have hold:∀b,b<w.heap.size->w'.heap[b]? = w.heap[b]? :=hb.block
 have lt:∀{b:Nat} {x:Obj},w.heap[b]? = some x->b<w.heap.size:=fun h=>(Array.getElem?_eq_some_iff.1 h).1
 have hs0:=R.frame.size
 refine⟨⟨hb.os.trans R.frame.os,hb.tape.trans R.frame.tape,hb.output.trans R.frame.output,Nat.le_trans hs0 hb.size,fun k hk hn=>(hold k (by omega)).trans (R.frame.block k hk hn)⟩,?_,?_,?_,?_,R.hinj,?_,R.tbox,R.tinj,R.snew,R.sold,R.base,R.glob⟩
 ·intro b o v h
  have h1:=R.stable b o v h
  have hlt:b<w.heap.size:=by
   rcases Nat.lt_or_ge b w.heap.size with h'|h'
   ·exact h'
   ·simp[World.cell?,Array.getElem?_eq_none h']at h1
  rw[World.cell?_of_block (hold b hlt)]
  exact h1
 ·intro id T cs h
  obtain⟨us,h1,h2,h3⟩:=R.box id T cs h
  exact⟨us,(hold _ (lt h1)).trans h1,h2,h3⟩
 ·intro id s pos h
  have h1:=R.iter id s pos h
  exact(hold _ (lt h1)).trans h1
 ·intro id o h
  obtain⟨h1,h2,h3,h4⟩:=R.hown id o h
  exact⟨h1,Nat.lt_of_lt_of_le h2 hb.size,h3,h4⟩
 ·intro k t h
  obtain⟨h1,h2,⟨us,h3,h4⟩,h5⟩:=R.tok k t h
  exact⟨h1,h2,⟨us,(hold _ (lt h3)).trans h3,h4⟩,h5⟩
def plainR:PV->Bool
 | .val _=>true
 | .tup cs=>cs.all fun p=>match p with | .val _=>true|_=>false
 |_=>false
theorem plainR_rep {S:Cells}{C:Cx}{T:List (Nat×Tok)}{U V:Nat->Prop}{v:Value}{p:PV}(h:plainR p=true)(r:RepA S v p):RepV C T U V v p:=by
 cases p with
 |val u=>obtain⟨rfl,h1⟩:=rep_val r; exact .frz (.val h1)
 |tup cs=>
  obtain⟨vs,rfl,h1,h2⟩:=rep_tup r
  refine .tup h1 (fun i v p hv hp=>?_)
  simp only[plainR,List.all_eq_true]at h
  have h3:=h p (List.mem_of_getElem? hp)
  have h4:=h2 i v p hv hp
  cases p with
  |val u=>obtain⟨rfl,h1⟩:=rep_val h4; exact .frz (.val h1)
  |_=>cases h3
 |_=>cases h
theorem OkI.frozen {g:FuncId}{st:PS}{ags as':List PV}{r:PV}(ok:Ok P g as' r)(hf:fzHAs P st.heap ags=some as')(hp:plainR r=true):OkI P g ags st (fun r' st'=>r'=r/\st'=st):=by
 refine⟨ok.1,fun own S0 w0 w C vals R hn hr=>?_⟩
 obtain⟨h4,h5⟩:=fzHAs_get hf
 have hO:Over C st w (memCells w):=⟨R.stable,fun id o ho i v hv=>hv⟩
 refine(ok.2 (memCells w) w vals R.known (memCells_stable w) (by omega) (fun i v q hv hq=>?_)).mono ?_
 ·have hi:i<ags.length:=by rw[h4]; exact(List.getElem?_eq_some_iff.1 hq).1
  have hp:=List.getElem?_eq_getElem hi
  exact fzHA_rep R hO (h5 i _ q hp hq) (hr i v _ hv hp)
 ·rintro e w' ⟨v,S',rfl,_,_,_,hr',hbel⟩
  exact⟨r,st,v,C,⟨rfl,rfl⟩,rfl,Rel.below_ R hbel,Ext.refl _ _ _ _,plainR_rep hp hr'⟩
end
end Go.Pw

end
section
namespace Go.Pw
open Go Go.RowKit
set_option linter.unusedVariables false
set_option linter.unusedSimpArgs false
section
variable {P:Program}
def OkQ (P:Program)(f:FuncId)(args:List PV)(Q:PV->Prop):Prop:=
 enters P f=true/\∀(S:Cells) (w:World) (vals:Array Value),Known w->Stable S w->vals.size=args.length->(∀(i:Nat) (v:Value) (p:PV),vals[i]? = some v->args[i]? = some p->RepA S v p) ->
  Calls P f vals w fun e w'=>∃r v S',Q r/\e = .returned v/\SLe S S'/\Stable S' w'/\(∀b o u,S' b o=some u->S b o=some u∨w.heap.size<=b)/\RepA S' v r/\Below w.heap.size w w'
def outQ (P:Program)(fn:Func)(Q:PV->Prop):Exit->PS->Prop
 | .normal,st=>bindO (resAll P st fn.results.toList) fun l=>bindO (fzHAs P st.heap l) fun l'=>Q (packR l')
 | .ret,st=>bindO (resAll P st fn.results.toList) fun l=>bindO (fzHAs P st.heap l) fun l'=>Q (packR l')
 |_,_=>False
theorem OkQ.of_pwp (hm:P.follows .mixedOrders=true){f:FuncId}{fn:Func}{c:Code}{args:List PV}{Q:PV->Prop}(hf:P.funcs[f]? = some fn)(hb:fn.body=some c)(hent:enters P f=true)
  {bar:Nat->Option Nat} (hfit:fitsC bar (args.length+(fn.ntmps-args.length)) c=true) (h:pwp P ⟨(0,0),bar⟩ c (enterPS args) (outQ P fn Q)):OkQ P f args Q:=by
 refine⟨hent,fun S w vals hkn hS hsz hrep=>?_⟩
 refine calls_of_wp hf hb ?_
 have hst:Stt Never ⟨S,C0 S,[],Never,Never⟩ w (args.length+(fn.ntmps-args.length)) (enterPS args) { tmps:=vals++Array.replicate (fn.ntmps-vals.size) undef,defers:=[] } w:=by
  refine⟨rfl,by simp[hsz],C0 S,⟨Frame.refl _ _,hS,?_,?_,?_,?_,?_,?_,?_,fun b o v h=> .inl h,SLe.refl _,⟨SLe.refl _,fun _ h=>h.elim,fun _ _ h=>h.elim,fun _ h=>h.elim,fun _ h=>h.elim⟩,⟨hkn.2,hkn.1,fun _ _ h=>h⟩⟩,?_⟩
  ·intro id T cs h; cases h
  ·intro id s pos h; cases h
  ·intro id o h; cases h
  ·intro i j oi oj h; cases h
  ·intro k t h; cases h
  ·intro i oi k t h; cases h
  ·intro i j ti tj h; cases h
  ·intro t p h
   obtain⟨_,h2⟩:=enterEnv_lkp args 0 t p h
   rw[Nat.sub_zero]at h2
   have ht:t<vals.size:=by rw[hsz]; exact(List.getElem?_eq_some_iff.1 h2).1
   have hv:vals[t]? = some vals[t]:=Array.getElem?_eq_getElem ht
   refine⟨vals[t],?_,RepV.ext (C:=C0 S) (C':=C0 S) (T:=[]) (T':=[]) ⟨SLe.refl _,fun _ h=>h.elim,fun _ _ h=>h.elim,fun _ h=>h.elim,fun _ h=>h.elim⟩ (hrep t _ p hv h2)⟩
   show(vals++Array.replicate _ undef)[t]? = _
   rw[Array.getElem?_append_left ht]
   exact hv
 refine wp_mono (pwp_sound (S0:=⟨S,C0 S,[],Never,Never⟩) hm ⟨fun _ h=>False.elim h,fun _ h=>False.elim h⟩ c _ _ _ w hfit h hst) ?_
 have fin:∀(st:PS) (a':Act) (w':World),Stt Never ⟨S,C0 S,[],Never,Never⟩ w (args.length+(fn.ntmps-args.length)) st a' w'->(bindO (resAll P st fn.results.toList) fun l=>bindO (fzHAs P st.heap l) fun l'=>Q (packR l')) ->
   a'.defers=[]/\∃v,(results fn a'.tmps).run P w' = .ok v w'/\∃r v' S',Q r/\Ending.returned v=Ending.returned v'/\SLe S S'/\Stable S' w'/\(∀b o u,S' b o=some u->S b o=some u∨w.heap.size<=b)/\RepA S' v' r/\Below w.heap.size w w':=by
  intro st a' w' ⟨h1,h2,C,R,E⟩ hk
  replace hk:=bindO_elim hk
  obtain⟨l,hl,hk⟩:=hk
  replace hk:=bindO_elim hk
  obtain⟨l',hl',hq⟩:=hk
  let S':Cells:=fun b o=>if w.heap.size<=b then w'.cell? ⟨b,o,none⟩ else S b o
  have hO:Over C st w' S':=by
   refine⟨fun b o v h=>?_,fun id o ho i v hv=>?_⟩
   ·show(if _ then _ else _)=_
    split
    ·exact R.stable b o v h
    ·rcases R.snew b o v h with h|h|h
     ·exact h
     ·exact h.elim
     ·contradiction
   ·show(if _ then _ else _)=_
    rcases(R.hown id o ho).2.2.1 with h|h
    ·exact h.elim
    ·rw[if_pos h]; exact hv
  obtain⟨v,hv,hr⟩:=results_soundH (P:=P) R E hO hl hl'
  refine⟨h1,v,hv,packR l',v,S',hq,rfl,fun b o u h=>hO.s _ _ _ (R.sold _ _ _ h),fun b o u h=>?_,fun b o u h=>?_,hr,⟨R.frame.os,R.frame.tape,R.frame.output,R.frame.size,fun k hk=>R.frame.block k hk (fun h=>h)⟩⟩
  ·replace h:(if w.heap.size<=b then w'.cell? ⟨b,o,none⟩ else S b o)=some u:=h
   split at h
   ·exact h
   ·exact R.stable b o u (R.sold _ _ _ h)
  ·replace h:(if w.heap.size<=b then w'.cell? ⟨b,o,none⟩ else S b o)=some u:=h
   split at h
   ·exact .inr ‹_›
   ·exact .inl h
 rintro e a' w' ⟨st,hq,hs⟩
 cases e with
 |normal=>exact fin st a' w' hs hq
 |ret=>exact fin st a' w' hs hq
 |_=>exact hq.elim
theorem Rel.afterPure {own:Nat->Prop}{S0:Base}{w0 w w':World}{C:Cx}{U V:Nat->Prop}{st:PS}{S':Cells}(R:Rel own S0 w0 C U V st w)(hS:SLe C.S S')(hst:Stable S' w')(hnew:∀b o u,S' b o=some u->C.S b o=some u∨w.heap.size<=b)(hb:Below w.heap.size w w') :
  Rel own S0 w0 { C with S:=S' } U V st w'/\Ext C { C with S:=S' } st.toks st.toks U V U V:=by
 have X':Ext C { C with S:=S' } st.toks st.toks U V U V:=⟨hS,fun _ _=>rfl,fun k t _ h=>⟨t,h,Nat.le_refl _,rfl,fun _=>rfl⟩,fun _ h=>h,fun _ h=>h⟩
 have heap_lt:∀{b:Nat} {x:Obj},w.heap[b]? = some x->b<w.heap.size:=fun h=>(Array.getElem?_eq_some_iff.1 h).1
 have hold:∀b,b<w.heap.size->w'.heap[b]? = w.heap[b]? :=hb.block
 have hfree:∀b o,b<w.heap.size->C.S b o=none->S' b o=none:=by
  intro b o hb' hn
  cases h:S' b o with
  |none=>rfl
  |some u=>
   rcases hnew b o u h with h1|h1
   ·rw[hn]at h1; cases h1
   ·omega
 have hs0:=R.frame.size
 refine⟨?_,X'⟩
 refine⟨⟨hb.os.trans R.frame.os,hb.tape.trans R.frame.tape,hb.output.trans R.frame.output,Nat.le_trans hs0 hb.size,fun k hk hn=>(hold k (by omega)).trans (R.frame.block k hk hn)⟩,hst,?_,?_,?_,R.hinj,?_,R.tbox,R.tinj,?_,R.sold.trans hS,R.base.trans X',R.glob⟩
 ·intro id T cs h
  obtain⟨us,h1,h2,h3⟩:=R.box id T cs h
  exact⟨us,(hold _ (heap_lt h1)).trans h1,h2,fun i v p hv hp=>⟨(h3 i v p hv hp).1,(h3 i v p hv hp).2.ext X'⟩⟩
 ·intro id s pos h
  have h1:=R.iter id s pos h
  exact(hold _ (heap_lt h1)).trans h1
 ·intro id o h
  obtain⟨h1,h2,h3,h4⟩:=R.hown id o h
  exact⟨h1,Nat.lt_of_lt_of_le h2 hb.size,h3,fun o'=>hfree _ _ h2 (h4 o')⟩
 ·intro k t h
  obtain⟨h1,h2,⟨us,h3,h4⟩,h5,h6,h7⟩:=R.tok k t h
  exact⟨h1,h2,⟨us,(hold _ (heap_lt h3)).trans h3,h4⟩,h5,h6,fun o ho'=>hfree _ _ (heap_lt h3) (h7 o ho')⟩
 ·intro b o u h
  rcases hnew b o u h with h1|h1
  ·exact R.snew b o u h1
  ·exact .inr (.inr (by omega))
theorem Ok.q {f:FuncId}{args:List PV}{r:PV}(h:Ok P f args r):OkQ P f args (· = r):=
 ⟨h.1,fun S w vals hk hS hn hr=>(h.2 S w vals hk hS hn hr).mono (fun e w' ⟨v,S',h1,h2,h3,h4,h5,h6⟩=>⟨r,v,S',rfl,h1,h2,h3,h4,h5,h6⟩)⟩
theorem OkQ.mono {f:FuncId}{args:List PV}{Q Q':PV->Prop}(h:OkQ P f args Q)(k:∀r,Q r->Q' r):OkQ P f args Q':=
 ⟨h.1,fun S w vals hk hS hn hr=>(h.2 S w vals hk hS hn hr).mono (fun e w' ⟨r,v,S',h0,h1⟩=>⟨r,v,S',k r h0,h1⟩)⟩
theorem OkI.ofQ {g:FuncId}{st:PS}{ags as':List PV}{Q:PV->Prop}(ok:OkQ P g as' Q)(hf:fzAs ags=some as'):OkI P g ags st (fun r' st'=>Q r'/\st'=st):=by
 refine⟨ok.1,fun own S0 w0 w C vals R hn hr=>?_⟩
 obtain⟨h4,h5⟩:=fzAs_get hf
 refine(ok.2 C.S w vals R.known R.stable (by omega) (fun i v q hv hq=>?_)).mono ?_
 ·have hi:i<ags.length:=by rw[h4]; exact(List.getElem?_eq_some_iff.1 hq).1
  have hp:=List.getElem?_eq_getElem hi
  exact fzA_rep (h5 i _ q hp hq) (hr i v _ hv hp)
 ·rintro e w' ⟨r,v,S',hq,rfl,hS,hst,hnew,hr',hbel⟩
  obtain⟨R',X'⟩:=R.afterPure hS hst hnew hbel
  exact⟨r,st,v,{ C with S:=S' },⟨hq,rfl⟩,rfl,R',X',RepA.up (C:={ C with S:=S' }) hr'⟩
end
end Go.Pw

end
section
namespace Go.Pw
open Go Go.RowKit
set_option linter.unusedVariables false
set_option linter.unusedSimpArgs false
def OkH (P:Program)(f:FuncId)(args:List PV)(Q:PV->PS->Prop):Prop:=
 enters P f=true/\∀(S:Cells) (w:World) (vals:Array Value),Known w->Stable S w->vals.size=args.length->(∀(i:Nat) (v:Value) (p:PV),vals[i]? = some v->args[i]? = some p->RepA S v p) ->
  Calls P f vals w fun e w'=>∃r s v C,Q r s/\e = .returned v/\Rel Never ⟨S,C0 S,[],Never,Never⟩ w C (· < s.nx) (· < s.nt) s w'/\RepV C s.toks (· < s.nx) (· < s.nt) v r
section
variable {P:Program}
theorem OkH.mono {f:FuncId}{args:List PV}{Q Q':PV->PS->Prop}(h:OkH P f args Q)(k:∀r s,Q r s->Q' r s):OkH P f args Q':=
 ⟨h.1,fun S w vals hk h1 h2 h3=>(h.2 S w vals hk h1 h2 h3).mono (by rintro e w' ⟨r,s,v,C,hq,h⟩; exact⟨r,s,v,C,k _ _ hq,h⟩)⟩
end
mutual
def PV.sh (a b:Nat):PV->PV
 | .val v=> .val v
 | .sl xs=> .sl xs
 | .row k xs=> .row (k+b) xs
 | .ptr i o=> .ptr (i+a) o
 | .ms i lo n c=> .ms (i+a) lo n c
 | .fp cs=> .fp cs
 | .agg cs=> .agg (PV.shL a b cs)
 | .tup cs=> .tup (PV.shL a b cs)
 | .fn f cs=> .fn f (PV.shL a b cs)
 | .bm f cs=> .bm f (PV.shL a b cs)
 | .iface t p=> .iface t (PV.sh a b p)
def PV.shL (a b:Nat):List PV->List PV
 | []=>[]
 |p::r=>PV.sh a b p::PV.shL a b r
end
def PObj.sh (a b:Nat):PObj->PObj
 | .box t cs=> .box t (PV.shL a b cs)
 | .iter s pos=> .iter s pos
def shH (a b:Nat):List (Nat×PObj)->List (Nat×PObj)
 | []=>[]
 |e::r=>(e.1+a,e.2.sh a b)::shH a b r
def shK (b:Nat):List (Nat×Tok)->List (Nat×Tok)
 | []=>[]
 |e::r=>(e.1+b,e.2)::shK b r
section
variable {P:Program}
end
mutual
def PV.rn (f:Nat->Nat)(b:Nat):PV->PV
 | .val v=> .val v
 | .sl xs=> .sl xs
 | .row k xs=> .row (k+b) xs
 | .ptr i o=> .ptr (f i) o
 | .ms i lo n c=> .ms (f i) lo n c
 | .fp cs=> .fp cs
 | .agg cs=> .agg (PV.rnL f b cs)
 | .tup cs=> .tup (PV.rnL f b cs)
 | .fn g cs=> .fn g (PV.rnL f b cs)
 | .bm g cs=> .bm g (PV.rnL f b cs)
 | .iface t p=> .iface t (PV.rn f b p)
def PV.rnL (f:Nat->Nat)(b:Nat):List PV->List PV
 | []=>[]
 |p::r=>PV.rn f b p::PV.rnL f b r
end
def PObj.rn (f:Nat->Nat)(b:Nat):PObj->PObj
 | .box t cs=> .box t (PV.rnL f b cs)
 | .iter s pos=> .iter s pos
def rnH (f:Nat->Nat)(b:Nat):List (Nat×PObj)->List (Nat×PObj)
 | []=>[]
 |e::r=>(f e.1,e.2.rn f b)::rnH f b r
def rnF (l:List Nat)(nx:Nat)(i:Nat):Nat:=match l[i]? with
 |some j=>j
 |none=>i-l.length+nx
def inL (j:Nat):List Nat->Bool
 | []=>false
 |a::r=>j==a||inL j r
theorem inL_iff {j:Nat}:∀{l:List Nat},inL j l=true↔j∈l
 | []=>by simp[inL]
 |a::r=>by simp[inL,inL_iff (l:=r)]
def dropH (l:List Nat):List (Nat×PObj)->List (Nat×PObj)
 | []=>[]
 |e::r=>if inL e.1 l=true then dropH l r else e::dropH l r
theorem rnL_get {f:Nat->Nat}{b:Nat}:∀{cs:List PV}(i:Nat),(PV.rnL f b cs)[i]? = (cs[i]?).map (PV.rn f b)
 | [],i=>by simp[PV.rnL]
 |p::r,0=>by simp[PV.rnL]
 |p::r,i+1=>by simp[PV.rnL,rnL_get i]
theorem rnL_len {f:Nat->Nat}{b:Nat}:∀{cs:List PV},(PV.rnL f b cs).length=cs.length
 | []=>rfl
 |p::r=>by rw[PV.rnL,List.length_cons,rnL_len,List.length_cons]
theorem dropH_lkp (l:List Nat):∀(H:List (Nat×PObj))(j:Nat),lkp (dropH l H) j=if j∈l then none else lkp H j
 | [],j=>by simp[dropH,lkp]
 |(k,o)::r,j=>by
  have ih:=dropH_lkp l r j
  simp only[dropH]
  split
  ·rename_i hk
   rw[inL_iff]at hk
   rw[ih,lkp_cons]
   by_cases e:j=k
   ·subst e; rw[if_pos hk,if_pos hk]
   ·rw[if_neg e]
  ·rename_i hk
   rw[inL_iff]at hk
   rw[lkp_cons,lkp_cons,ih]
   by_cases e:j=k
   ·subst e; rw[if_pos rfl,if_neg hk,if_pos rfl]
   ·rw[if_neg e,if_neg e]
theorem RepV.rn {C C':Cx}{T T':List (Nat×Tok)}{U V U' V':Nat->Prop}{f:Nat->Nat}{b:Nat}(hS:SLe C.S C'.S)(hU:∀i,U i->C'.ρ (f i)=C.ρ i/\U' (f i))(hV:∀k,V k->C'.τ (k+b)=C.τ k/\V' (k+b)/\∀t,lkp T' (k+b)=some t->lkp T k=some t){v:Value}{p:PV}(r:RepV C T U V v p) :
  RepV C' T' U' V' v (p.rn f b):=by
 induction r with
 | @frz v p h=>
  have:=h.mono hS
  cases h with
  |val h=>exact .frz this
  |sl=>exact .frz this
 |row h hk ht=>
  obtain⟨h1,h2,h3⟩:=hV _ hk
  refine .row (h.mono hS) h2 (fun t h'=>?_)
  obtain⟨g1,g2,g3⟩:=ht t (h3 t h')
  exact⟨g1,g2,fun e=>by rw[h1]; exact g3 e⟩
 | @ptr id off h=>rw[<-(hU _ h).1]; exact .ptr (hU _ h).2
 | @ms id lo n cap h hc=>rw[<-(hU _ h).1]; exact .ms (hU _ h).2 hc
 |fp h=>exact .fp (fun i p hp=>by obtain⟨u,h1,h2⟩:=h i p hp; exact⟨u,hS _ _ _ h1,h2.mono hS⟩)
 |agg hs h h1 ih=>
  refine .agg (by rw[rnL_len]; exact hs) (fun i v p hv hp=>?_) h1
  rw[rnL_get]at hp
  obtain⟨q,hq,rfl⟩:=Option.map_eq_some_iff.1 hp
  exact ih i v q hv hq
 |tup hs h ih=>
  refine .tup (by rw[rnL_len]; exact hs) (fun i v p hv hp=>?_)
  rw[rnL_get]at hp
  obtain⟨q,hq,rfl⟩:=Option.map_eq_some_iff.1 hp
  exact ih i v q hv hq
 |fn hs h ih=>
  refine .fn (by rw[rnL_len]; exact hs) (fun i v p hv hp=>?_)
  rw[rnL_get]at hp
  obtain⟨q,hq,rfl⟩:=Option.map_eq_some_iff.1 hp
  exact ih i v q hv hq
 |bm hs h ih=>
  refine .bm (by rw[rnL_len]; exact hs) (fun i v p hv hp=>?_)
  rw[rnL_get]at hp
  obtain⟨q,hq,rfl⟩:=Option.map_eq_some_iff.1 hp
  exact ih i v q hv hq
 |iface h ih=>exact .iface ih
section
variable {P:Program}
theorem RepV.back {C C0:Cx}{T:List (Nat×Tok)}{U V:Nat->Prop}{f:Nat->Nat}{b m:Nat}(hS:SLe C.S C0.S)(hρ:∀i,i<m->C0.ρ i=C.ρ (f i)){v:Value}{q:PV}(r:RepV C T U V v q) :
  ∀{p:PV},p.rn f b=q->p.lt m 0=true->RepV C0 [] (· < m) Never v p:=by
 induction r with
 | @frz v q h=>
  intro p e hl
  cases p with
  |val u=>simp only[PV.rn]at e; subst e; exact .frz (h.mono hS)
  |sl xs=>simp only[PV.rn]at e; subst e; exact .frz (h.mono hS)
  |_=>simp only[PV.rn]at e; subst e; cases h
 |row h hk ht=>
  intro p e hl
  cases p with
  |row k xs=>simp[PV.lt]at hl
  |_=>simp[PV.rn]at e
 | @ptr id off h=>
  intro p e hl
  cases p with
  |ptr i o=>
   simp only[PV.rn,PV.ptr.injEq]at e
   obtain⟨e1,rfl⟩:=e
   have hi:i<m:=by simpa [PV.lt]using hl
   rw[<-e1,<-hρ i hi]
   exact .ptr hi
  |_=>simp[PV.rn]at e
 | @ms id lo n cap h hc=>
  intro p e hl
  cases p with
  |ms i lo' n' cap'=>
   simp only[PV.rn,PV.ms.injEq]at e
   obtain⟨e1,rfl,rfl,rfl⟩:=e
   have hi:i<m:=by simpa [PV.lt]using hl
   rw[<-e1,<-hρ i hi]
   exact .ms hi hc
  |_=>simp[PV.rn]at e
 |fp h=>
  intro p e hl
  cases p with
  |fp cs=>simp only[PV.rn,PV.fp.injEq]at e; subst e; exact .fp (fun i p hp=>by obtain⟨u,h1,h2⟩:=h i p hp; exact⟨u,hS _ _ _ h1,h2.mono hS⟩)
  |_=>simp[PV.rn]at e
 |agg hs h h1 ih=>
  intro p e hl
  cases p with
  |agg cs=>
   simp only[PV.rn,PV.agg.injEq]at e
   subst e
   rw[rnL_len]at hs
   refine .agg hs (fun i v p hv hp=>?_) h1
   exact ih i v (p.rn f b) hv (by rw[rnL_get,hp]; rfl) rfl (ltL_get (by simpa [PV.lt]using hl) p (List.mem_of_getElem? hp))
  |_=>simp[PV.rn]at e
 |tup hs h ih=>
  intro p e hl
  cases p with
  |tup cs=>
   simp only[PV.rn,PV.tup.injEq]at e
   subst e
   rw[rnL_len]at hs
   exact .tup hs (fun i v p hv hp=>ih i v (p.rn f b) hv (by rw[rnL_get,hp]; rfl) rfl (ltL_get (by simpa [PV.lt]using hl) p (List.mem_of_getElem? hp)))
  |_=>simp[PV.rn]at e
 |fn hs h ih=>
  intro p e hl
  cases p with
  |fn g cs=>
   simp only[PV.rn,PV.fn.injEq]at e
   obtain⟨rfl,rfl⟩:=e
   rw[rnL_len]at hs
   exact .fn hs (fun i v p hv hp=>ih i v (p.rn f b) hv (by rw[rnL_get,hp]; rfl) rfl (ltL_get (by simpa [PV.lt]using hl) p (List.mem_of_getElem? hp)))
  |_=>simp[PV.rn]at e
 |bm hs h ih=>
  intro p e hl
  cases p with
  |bm g cs=>
   simp only[PV.rn,PV.bm.injEq]at e
   obtain⟨rfl,rfl⟩:=e
   rw[rnL_len]at hs
   exact .bm hs (fun i v p hv hp=>ih i v (p.rn f b) hv (by rw[rnL_get,hp]; rfl) rfl (ltL_get (by simpa [PV.lt]using hl) p (List.mem_of_getElem? hp)))
  |_=>simp[PV.rn]at e
 |iface h ih=>
  intro p e hl
  cases p with
  |iface t p=>
   simp only[PV.rn,PV.iface.injEq]at e
   obtain⟨rfl,e⟩:=e
   exact .iface (ih e (by simpa [PV.lt]using hl))
  |_=>simp[PV.rn]at e
end
def allL {α:Type}(F:α->Prop):List α->Prop
 | []=>True
 |a::r=>F a/\allL F r
def allI {α:Type}(F:Nat->α->Prop):Nat->List α->Prop
 |_,[]=>True
 |k,a::r=>F k a/\allI F (k+1) r
theorem allL_mem {α:Type}{F:α->Prop}:∀{l:List α},allL F l->∀a∈l,F a
 | [],_,a,h=>by cases h
 |b::r,h,a,hm=>by
  rcases List.mem_cons.1 hm with rfl|hm
  ·exact h.1
  ·exact allL_mem h.2 a hm
theorem allI_get {α:Type}{F:Nat->α->Prop}:∀{l:List α}{k:Nat},allI F k l->∀(i:Nat)(a:α),l[i]? = some a->F (k+i) a
 | [],_,_,i,a,h=>by simp at h
 |b::r,k,h,0,a,ha=>by
  obtain rfl:=Option.some.inj (by simpa using ha)
  exact h.1
 |b::r,k,h,i+1,a,ha=>by
  have:=allI_get h.2 i a (by simpa using ha)
  rw[show k+(i+1)=k+1+i by omega]
  exact this
theorem bindO_mono {α:Type}{o:Option α}{F G:α->Prop}(h:∀x,F x->G x)(k:bindO o F):bindO o G:=by
 obtain⟨x,hx,h1⟩:=bindO_elim k
 rw[hx]
 exact h x h1
theorem CallOk.mono {dr:Bool}{P:Program}{g:FuncId}{ags:List PV}{st:PS}{id tk:Nat}{K K':PV->PS->Prop}(hk:∀p s,K p s->K' p s)(h:CallOk dr P g ags st id tk K):CallOk dr P g ags st id tk K':=by
 cases h with
 |pure as' r hf ok k=>exact .pure as' r hf ok (hk _ _ k)
 |ext vs r ha hr ho k=>exact .ext vs r ha hr ho (hk _ _ k)
 |own hdr Q ok k=>exact .own hdr Q ok (fun r st' h=>hk _ _ (k r st' h))
theorem stepN_mono {dr:Bool}{P:Program}{o:Oper}{st:PS}{id tk:Nat}{K K':PS->Prop}(hk:∀s,K s->K' s)(h:stepN dr P o st id tk K):stepN dr P o st id tk K':=by
 have plain:stepN0 P o st id tk K->stepN0 P o st id tk K':=fun h=>stepD_mono (fun d hd=>hk _ hd) h
 unfold stepN at h ⊢
 split at h
 ·split at h
  ·refine bindO_mono (fun pf h=>?_) h
   split at h
   ·exact bindO_mono (fun ags h=>CallOk.mono (fun p s h=>hk _ h) h) h
   ·refine bindO_mono (fun ags h=>⟨h.1,?_⟩) h
    cases h.2 with
    |mk Q ok k=>exact .mk Q ok (fun r st' h=>hk _ (k r st' h))
   ·exact h
  ·refine bindO_mono (fun pf h=>?_) h
   split at h
   ·refine bindO_mono (fun ags h=>⟨h.1,?_⟩) h
    cases h.2 with
    |mk g δ Q hd ok k=>exact .mk g δ Q hd ok (fun r st' h=>hk _ (k r st' h))
   ·exact h
  ·exact plain h
 ·exact plain h
structure Row where
 b:Array Bool
 rd:List Nat
 m:Nat
theorem p_tableU {P:Program}{l0:Nat×Nat}{st:PS}{Q:Exit->PS->Prop}{r n:Nat}{l:List Oper}(hn:l.length<=n)(tab:List Row)(ht:(tab.all fun e=>decide (Region.ready .any l.toArray e.b=e.rd)&&(e.m != 0||e.rd.isEmpty))=true)
  (D:Type) (I:Nat->D->PS) (inv:Nat->D->Prop) (d0:D) (h0:((tab[0]?).any fun e=>decide (e.b=Array.replicate l.length false)&&decide (e.m<=l.length))=true) (hi0:inv 0 d0) (hw:Weak l0 st (I 0 d0))
  (step:allI (fun k e=>∀d,inv k d->(e.rd=[]->Q .normal (I k d))/\allL (fun n=>bindO (l[n]?) fun o=>stepU P l.toArray o (I k d) fun s'=>∃k' d',((tab[k']?).any fun e'=>decide (e'.m<e.m)&&decide (e'.b=e.b.setIfInBounds n true))=true/\inv k' d'/\Weak l0 s' (I k' d')) e.rd) 0 tab) :
  pwp P ⟨l0,oneBar r n⟩ (.region r l.toArray true) st Q:=by
 refine p_expl hn ?_
 rw[List.all_eq_true]at ht
 obtain⟨e0,he0,h0⟩:∃e0,tab[0]? = some e0/\e0.b=Array.replicate l.length false/\e0.m<=l.length:=by
  cases h:tab[0]? with
  |none=>rw[h]at h0; cases h0
  |some e=>
   rw[h]at h0
   simp only[Option.any_some,Bool.and_eq_true,decide_eq_true_eq]at h0
   exact⟨e,rfl,h0⟩
 show expl P l.toArray l0 st (Q .normal)
 refine⟨{ x:Nat×D // (∃e,tab[x.1]? = some e)/\inv x.1 x.2 },fun x=>I x.1.1 x.1.2,fun x=>(tab[x.1.1]?.getD ⟨#[],[],0⟩).b,fun x=>(tab[x.1.1]?.getD ⟨#[],[],0⟩).m,⟨(0,d0),⟨e0,he0⟩,hi0⟩,hw,by simp only[he0,Option.getD_some]; simpa using h0.1,by simp only[he0,Option.getD_some]; simpa using h0.2,?_⟩
 rintro⟨⟨k,d⟩,⟨e,he⟩,hi⟩
 simp only at he hi
 have h1:=ht e (List.mem_of_getElem? he)
 simp only[Bool.and_eq_true,decide_eq_true_eq,Bool.or_eq_true,bne_iff_ne,ne_eq,List.isEmpty_iff]at h1
 have h2:=allI_get step k e he
 rw[Nat.zero_add]at h2
 obtain⟨s1,s2⟩:=h2 d hi
 simp only[he,Option.getD_some,h1.1]
 refine⟨s1,fun hm=>h1.2.resolve_left (fun h=>h hm),fun n hn=>?_⟩
 have h3:=bindO_elim (allL_mem s2 n hn)
 obtain⟨o,ho,hd⟩:=h3
 rw[show l.toArray[n]? = l[n]? by simp,ho,bindO_some]
 have mono:∀{K K':PS->Prop},(∀s,K s->K' s)->stepU P l.toArray o (I k d) K->stepU P l.toArray o (I k d) K':=fun {K K'} hK h=>by
  rcases h with h|h
  rotate_left
  ·exact .inr ⟨h.1,fun own S0 w0 N a w X hf hs=>Oper.wp_mono (fun a' w' ⟨st',hk,h2⟩=>⟨st',hK _ hk,h2⟩) (h.2 own S0 w0 N a w X hf hs)⟩
  refine .inl ?_
  simp only[dopsS]at h ⊢
  cases hg:o.guard with
  |none=>rw[hg]at h; exact stepN_mono (fun s hs=>hK _ hs) h
  |some gb=>
   obtain⟨g,b⟩:=gb
   rw[hg]at h
   simp only at h ⊢
   unfold guardK at h ⊢
   refine bindO_mono (fun d h=>bindO_mono (fun p h=>?_) h) h
   split at h
   ·exact⟨fun e=>stepN_mono (fun s hs=>hK _ hs) (h.1 e),fun e=>hK _ (h.2 e)⟩
   ·exact⟨fun e=>stepN_mono (fun s hs=>hK _ hs) (h.1 e),fun e=>hK _ (h.2 e)⟩
   ·exact h
 refine mono ?_ hd
 rintro s' ⟨k',d',hk,hi',hw'⟩
 cases he':tab[k']? with
 |none=>rw[he']at hk; cases hk
 |some e'=>
  rw[he']at hk
  simp only[Option.any_some,Bool.and_eq_true,decide_eq_true_eq]at hk
  exact⟨⟨(k',d'),⟨e',he'⟩,hi'⟩,by simp only[he',Option.getD_some]; exact hk.1,by simp only[he',Option.getD_some]; exact hk.2,hw'⟩
end Go.Pw

end
section
namespace Go.Pw
open Go Go.RowKit
set_option linter.unusedVariables false
abbrev vI (n:Int):PV:= .val (.int .i64 n)
abbrev vC (n:Int):PV:= .val (.int .u8 n)
abbrev vB (b:Bool):PV:= .val (.bool b)
abbrev vS (s:ByteArray):PV:= .val (.string s)
abbrev vNil:PV:= .val (.slice none 0 0)
def encI (l:List Int):List (List PV):=l.map fun n=>[.val (.int .i64 n)]
theorem encI_len (l:List Int):(encI l).length=l.length:=by simp[encI]
theorem encI_get (l:List Int)(i:Nat):(encI l).getD i []=if i<l.length then[vI (l.getD i 0)] else[]:=by
 unfold encI
 by_cases h:i<l.length
 ·simp[h,List.getD_eq_getElem?_getD]
 ·rw[if_neg h,List.getD_eq_getElem?_getD,List.getElem?_eq_none (by simpa using h)]; rfl
theorem encI_take (l:List Int)(n:Nat):(encI l).take n=encI (l.take n):=by simp[encI,List.map_take]
theorem encI_app (l m:List Int):encI l++encI m=encI (l++m):=by simp[encI]
theorem encI_snoc (l:List Int)(f:Int):encI l++[[.val (.int .i64 f)]]=encI (l++[f]):=by simp[encI]
theorem encI_one (f:Int):[[PV.val (.int .i64 f)]]=encI [f]:=by simp[encI]
theorem encI_nil:encI []=[]:=rfl
theorem ix_enc {a:List Int}{i:Int}{K:PV->Prop}(h0:0<=i)(h1:i<(a.length:Int)):ixP 1 i K (.sl (encI a))=K (.fp [vI (a.getD i.toNat 0)]):=by
 have h:i.toNat<a.length:=by omega
 simp only[ixP,encI_get,if_pos h,encI_len,List.length_singleton,h0,h1,true_and]
def rowI (k:Nat):List Int->PV
 | []=>vNil
 |x::r=> .row k (encI (x::r))
def tokI (k:Nat)(e:TypeId):List Int->List (Nat×Tok)
 | []=>[]
 |x::r=>[(k,⟨e,1,(x::r).length⟩)]
def encC (l:List Int):List (List PV):=l.map fun n=>[.val (.int .u8 n)]
theorem encC_len (l:List Int):(encC l).length=l.length:=by simp[encC]
theorem encC_snoc (l:List Int)(f:Int):encC l++[[.val (.int .u8 f)]]=encC (l++[f]):=by simp[encC]
theorem encC_one (f:Int):[[PV.val (.int .u8 f)]]=encC [f]:=by simp[encC]
theorem encC_nums:∀l,numsOf (encC l)=some l
 | []=>rfl
 |n::r=>by
  have ih:=encC_nums r
  unfold encC at ih ⊢
  rw[List.map_cons,numsOf,ih]
  rfl
def rowC (k:Nat):List Int->PV
 | []=>vNil
 |x::r=> .row k (encC (x::r))
def tokC (k:Nat)(e:TypeId):List Int->List (Nat×Tok)
 | []=>[]
 |x::r=>[(k,⟨e,1,(x::r).length⟩)]
theorem rowC_lt (a k:Nat)(xs:List Int):PV.lt a (k+1) (rowC k xs)=true:=by cases xs<;>simp[rowC,PV.lt]
theorem tokC_weak (k:Nat)(t:TypeId)(xs:List Int):∀e∈tokC k t xs,lkp (tokC k t xs) e.1=some e.2/\e.1<k+1:=by
 cases xs with
 |nil=>intro e he; cases he
 |cons x r=>
  intro e he
  simp only[tokC,List.mem_singleton]at he
  subst he
  exact⟨by simp[tokC,lkp],by simp only; omega⟩
theorem conv_rowC {P:Program}{src dst:TypeId}{k:Nat}{xs:List Int}{K:PV->Prop}(hs:(P.underlying src).isSome=true)(hb:isBytes P src)(hd:P.underlying dst=some .string):convK P src dst (rowC k xs) K=K (.val (.string (strOfNums xs))):=by
 unfold convK
 rw[hd]
 cases xs with
 |nil=>exact propext ⟨fun h=>h.2.2,fun h=>⟨hs,hb,h⟩⟩
 |cons x r=>
  simp only[rowC,encC_nums]
  exact propext ⟨fun h=>h.2.2,fun h=>⟨hs,hb,h⟩⟩
theorem str_eq (a b:ByteArray):(a.data.toList=b.data.toList)=(a=b):=by
 refine propext ⟨fun h=>?_,fun h=>by rw[h]⟩
 cases a; cases b
 simp at h
 rw[h]
theorem encS_len (s:ByteArray):(encS s).length=s.size:=by simp[encS]
theorem encS_app (s t:ByteArray):encS s++encS t=encS (s++t):=by simp[encS]
theorem app_sn {e:TypeId}{b tk:Nat}{st:PS}{K:Delta->Prop}{t:ByteArray}(h0:t.size≠0)(hl:t.size*b<=140737488355328)(hm:t.size<=9223372036854775807) :
  appS e b st tk K (.val (.slice none 0 0)) (.val (.string t))=K ⟨none,some (tk,⟨e,1,t.size⟩),some (.row tk (encS t))⟩:=by
 have hn:=encS_len t
 unfold appS
 simp only
 generalize encS t=l at *
 cases l with
 |nil=>exact absurd hn.symm h0
 |cons y r=>
  unfold appT
  simp only
  rw[hn]
  exact propext ⟨fun h=>h.2.2,fun h=>⟨hl,hm,h⟩⟩
theorem app_sr {e:TypeId}{b tk k:Nat}{st:PS}{K:Delta->Prop}{s t:ByteArray}(h0:t.size≠0)(hl:(s.size+t.size)*b<=140737488355328)(hm:s.size+t.size<=9223372036854775807) :
  appS e b st tk K (.row k (encS s)) (.val (.string t))=bindO (lkp st.toks k) fun t'=>t'.n=s.size/\t'.e=e/\t'.sz=1/\K ⟨none,some (k,⟨e,1,s.size+t.size⟩),some (.row k (encS (s++t)))⟩:=by
 have hn:=encS_len t
 have ha:=encS_app s t
 unfold appS
 simp only
 generalize encS t=l at *
 cases l with
 |nil=>exact absurd hn.symm h0
 |cons y r=>
  unfold appT
  simp only[encS_len,ha]
  rw[hn]
  congr 1
  funext t'
  exact propext ⟨fun ⟨a,b,c,_,_,h⟩=>⟨a,b,c,h⟩,fun ⟨a,b,c,h⟩=>⟨a,b,c,hl,hm,h⟩⟩
theorem ev_iface (st:PS):st.ev (.const .nilIface)=some (.val .nilIface):=rfl
attribute [go_sem] frz_self frz1_self frzL_self frzO_self frzO_box frzO_iter frzL_cons frzL_nil frz_agg frz1_row frz1_nil frz1_val frz1_sl frz1_rr frz1_ptr frz1_ms frz_val frz_sl frz_row frz_ptr frz_ms frz_fp frz_tup frz_fn frz_bm PV.lt PV.ltL PObj.lt Nat.zero_le
attribute [go_sem ↓] p_region_t p_region_o ds_plain ds_guard ds_nil p_seq p_cond p_block p_scope p_label p_exit p_ret p_skip p_region p_region_b d_plain d_guard guardP_t guardP_f guardP_n ifK_true ifK_false d_nil s_move s_assign s_pick s_load s_build s_binOp s_unOp s_convert s_slice s_fieldAddr s_field s_indexAddr s_index s_extract s_makeFunc s_makeBm s_nilCheck s_len s_next nxtP s_max s_min s_append s_call s_invoke s_box s_store load_ load_ptr load_fp b_some i_int boolK_b lenP lenS ixP ixA ixS fldP slcP slcS bd_nn bd_sn bd_ns bd_ss appT and_dT app_sn app_sr fieldP_agg binK constO isNilK bopK unK convK max2K
attribute [go_sem] PV.rn PV.rnL PObj.rn rnH rnF dropH shK PV.sh PV.shL PObj.sh shH List.getElem?_nil inL
attribute [go_sem] outI enterPS enterEnv guardP_t guardP_f guardP_n ifK_true ifK_false boolK_b ifK_dT ifK_dF ifK_nT ifK_nF wrap64 rngP hold_eq evS_eq evN_eq evL_eq ev_tmp ev_int ev_bool ev_str ev_nil ev_iface ev_func lkp upd b_some i_int put_some kill_none kill_some List.getElem?_cons_zero List.getElem?_cons_succ Option.bind_some Option.map_some evAll evParts if_true if_false fillP tok_T tok_F toks_T toks_F ob_T ob_F obs_T obs_F srcXs fzLL valsOf Delta.apply mem_cons_ mem_nil_ Bool.or_false Bool.false_or Bool.or_self List.take_zero List.take_succ_cons List.drop_zero List.drop_succ_cons List.all_cons List.all_nil Bool.and_self Bool.and_true Bool.true_and or_true true_or PV.cells notTup Bool.false_eq_true Bool.not_true Bool.not_false false_implies forall_const true_and and_true Nat.zero_add List.cons_append List.nil_append List.append_nil List.length_cons List.length_nil outK resAll resOf fzAs fzA fzC fzCL fzL fz packR Option.map eq_self decide_true decide_false ne_eq not_true_eq_false not_false_eq_true Option.isSome_some Int.toNat_natCast encC_len encC_nums encC_snoc str_eq
end Go.Pw

end
section
namespace Go.Pw
open Go Go.RowKit
set_option linter.unusedVariables false
set_option linter.unusedSimpArgs false
mutual
def PV.rm (f g:Nat->Nat):PV->PV
 | .val v=> .val v
 | .sl xs=> .sl xs
 | .row k xs=> .row (g k) xs
 | .ptr i o=> .ptr (f i) o
 | .ms i lo n c=> .ms (f i) lo n c
 | .fp cs=> .fp cs
 | .agg cs=> .agg (PV.rmL f g cs)
 | .tup cs=> .tup (PV.rmL f g cs)
 | .fn h cs=> .fn h (PV.rmL f g cs)
 | .bm h cs=> .bm h (PV.rmL f g cs)
 | .iface t p=> .iface t (PV.rm f g p)
def PV.rmL (f g:Nat->Nat):List PV->List PV
 | []=>[]
 |p::r=>PV.rm f g p::PV.rmL f g r
end
def PObj.rm (f g:Nat->Nat):PObj->PObj
 | .box t cs=> .box t (PV.rmL f g cs)
 | .iter s pos=> .iter s pos
def rmH (f g:Nat->Nat):List (Nat×PObj)->List (Nat×PObj)
 | []=>[]
 |e::r=>(f e.1,e.2.rm f g)::rmH f g r
def rmK (g:Nat->Nat):List (Nat×Tok)->List (Nat×Tok)
 | []=>[]
 |e::r=>(g e.1,e.2)::rmK g r
def dropK (l:List Nat):List (Nat×Tok)->List (Nat×Tok)
 | []=>[]
 |e::r=>if inL e.1 l=true then dropK l r else e::dropK l r
theorem rmL_get {f g:Nat->Nat}:∀{cs:List PV}(i:Nat),(PV.rmL f g cs)[i]? = (cs[i]?).map (PV.rm f g)
 | [],i=>by simp[PV.rmL]
 |p::r,0=>by simp[PV.rmL]
 |p::r,i+1=>by simp[PV.rmL,rmL_get i]
theorem rmL_len {f g:Nat->Nat}:∀{cs:List PV},(PV.rmL f g cs).length=cs.length
 | []=>rfl
 |p::r=>by rw[PV.rmL,List.length_cons,rmL_len,List.length_cons]
theorem dropK_lkp (l:List Nat):∀(H:List (Nat×Tok))(j:Nat),lkp (dropK l H) j=if j∈l then none else lkp H j
 | [],j=>by simp[dropK,lkp]
 |(k,o)::r,j=>by
  have ih:=dropK_lkp l r j
  simp only[dropK]
  split
  ·rename_i hk
   rw[inL_iff]at hk
   rw[ih,lkp_cons]
   by_cases e:j=k
   ·subst e; rw[if_pos hk,if_pos hk]
   ·rw[if_neg e]
  ·rename_i hk
   rw[inL_iff]at hk
   rw[lkp_cons,lkp_cons,ih]
   by_cases e:j=k
   ·subst e; rw[if_pos rfl,if_neg hk,if_pos rfl]
   ·rw[if_neg e,if_neg e]
theorem rmH_lkp {f g:Nat->Nat}(inj:∀i j,f i=f j->i=j)(H:List (Nat×PObj)):∀(l:List (Nat×PObj))(i:Nat),lkp H (f i)=none->lkp (rmH f g l++H) (f i)=(lkp l i).map (PObj.rm f g)
 | [],i,h=>by simpa [rmH,lkp]using h
 |(k,o)::r,i,h=>by
  rw[rmH,List.cons_append,lkp_cons,lkp_cons,rmH_lkp inj H r i h]
  by_cases e:i=k
  ·subst e; rw[if_pos rfl,if_pos rfl]; rfl
  ·rw[if_neg e,if_neg (fun h=>e (inj _ _ h))]
theorem rmH_out {f g:Nat->Nat}(H:List (Nat×PObj))(j:Nat)(hj:∀i,f i≠j):∀(l:List (Nat×PObj)),lkp (rmH f g l++H) j=lkp H j
 | []=>rfl
 |(k,o)::r=>by rw[rmH,List.cons_append,lkp_cons,rmH_out H j hj r,if_neg (fun h=>hj k h.symm)]
theorem rmK_lkp {g:Nat->Nat}(inj:∀i j,g i=g j->i=j)(H:List (Nat×Tok)):∀(l:List (Nat×Tok))(i:Nat),lkp H (g i)=none->lkp (rmK g l++H) (g i)=lkp l i
 | [],i,h=>by simpa [rmK,lkp]using h
 |(k,o)::r,i,h=>by
  rw[rmK,List.cons_append,lkp_cons,lkp_cons,rmK_lkp inj H r i h]
  by_cases e:i=k
  ·subst e; rw[if_pos rfl,if_pos rfl]
  ·rw[if_neg e,if_neg (fun h=>e (inj _ _ h))]
theorem rmK_out {g:Nat->Nat}(H:List (Nat×Tok))(j:Nat)(hj:∀i,g i≠j):∀(l:List (Nat×Tok)),lkp (rmK g l++H) j=lkp H j
 | []=>rfl
 |(k,o)::r=>by rw[rmK,List.cons_append,lkp_cons,rmK_out H j hj r,if_neg (fun h=>hj k h.symm)]
theorem RepV.rm {C C':Cx}{T T':List (Nat×Tok)}{U V U' V':Nat->Prop}{f g:Nat->Nat}(hS:SLe C.S C'.S)(hU:∀i,U i->C'.ρ (f i)=C.ρ i/\U' (f i))(hV:∀k,V k->C'.τ (g k)=C.τ k/\V' (g k)/\∀t,lkp T' (g k)=some t->lkp T k=some t){v:Value}{p:PV}(r:RepV C T U V v p) :
  RepV C' T' U' V' v (p.rm f g):=by
 induction r with
 | @frz v p h=>
  have:=h.mono hS
  cases h with
  |val h=>exact .frz this
  |sl=>exact .frz this
 |row h hk ht=>
  obtain⟨h1,h2,h3⟩:=hV _ hk
  refine .row (h.mono hS) h2 (fun t h'=>?_)
  obtain⟨g1,g2,g3⟩:=ht t (h3 t h')
  exact⟨g1,g2,fun e=>by rw[h1]; exact g3 e⟩
 | @ptr id off h=>rw[<-(hU _ h).1]; exact .ptr (hU _ h).2
 | @ms id lo n cap h hc=>rw[<-(hU _ h).1]; exact .ms (hU _ h).2 hc
 |fp h=>exact .fp (fun i p hp=>by obtain⟨u,h1,h2⟩:=h i p hp; exact⟨u,hS _ _ _ h1,h2.mono hS⟩)
 |agg hs h h1 ih=>
  refine .agg (by rw[rmL_len]; exact hs) (fun i v p hv hp=>?_) h1
  rw[rmL_get]at hp
  obtain⟨q,hq,rfl⟩:=Option.map_eq_some_iff.1 hp
  exact ih i v q hv hq
 |tup hs h ih=>
  refine .tup (by rw[rmL_len]; exact hs) (fun i v p hv hp=>?_)
  rw[rmL_get]at hp
  obtain⟨q,hq,rfl⟩:=Option.map_eq_some_iff.1 hp
  exact ih i v q hv hq
 |fn hs h ih=>
  refine .fn (by rw[rmL_len]; exact hs) (fun i v p hv hp=>?_)
  rw[rmL_get]at hp
  obtain⟨q,hq,rfl⟩:=Option.map_eq_some_iff.1 hp
  exact ih i v q hv hq
 |bm hs h ih=>
  refine .bm (by rw[rmL_len]; exact hs) (fun i v p hv hp=>?_)
  rw[rmL_get]at hp
  obtain⟨q,hq,rfl⟩:=Option.map_eq_some_iff.1 hp
  exact ih i v q hv hq
 |iface h ih=>exact .iface ih
mutual
theorem lt_low {a b a' b':Nat}(ha:a<=a')(hb:b<=b'):∀(p:PV),p.lt a b=true->p.lt a' b'=true
 | .val v,_=>rfl
 | .sl xs,_=>rfl
 | .row k xs,h=>by simp only[PV.lt,decide_eq_true_eq]at h ⊢; omega
 | .ptr i o,h=>by simp only[PV.lt,decide_eq_true_eq]at h ⊢; omega
 | .ms i lo n c,h=>by simp only[PV.lt,decide_eq_true_eq]at h ⊢; omega
 | .fp cs,_=>rfl
 | .agg cs,h=>by simp only[PV.lt]at h ⊢; exact ltL_low ha hb cs h
 | .tup cs,h=>by simp only[PV.lt]at h ⊢; exact ltL_low ha hb cs h
 | .fn g cs,h=>by simp only[PV.lt]at h ⊢; exact ltL_low ha hb cs h
 | .bm g cs,h=>by simp only[PV.lt]at h ⊢; exact ltL_low ha hb cs h
 | .iface t p,h=>by simp only[PV.lt]at h ⊢; exact lt_low ha hb p h
theorem ltL_low {a b a' b':Nat}(ha:a<=a')(hb:b<=b'):∀(l:List PV),PV.ltL a b l=true->PV.ltL a' b' l=true
 | [],_=>rfl
 |p::r,h=>by
  simp only[PV.ltL,Bool.and_eq_true]at h ⊢
  exact⟨lt_low ha hb p h.1,ltL_low ha hb r h.2⟩
end
mutual
theorem rm_frz {f g:Nat->Nat}:∀(p:PV),p.lt 0 0=true->p.rm f g=p
 | .val v,_=>rfl
 | .sl xs,_=>rfl
 | .row k xs,h=>by simp[PV.lt]at h
 | .ptr i o,h=>by simp[PV.lt]at h
 | .ms i lo n c,h=>by simp[PV.lt]at h
 | .fp cs,_=>rfl
 | .agg cs,h=>by simp only[PV.lt]at h; rw[PV.rm,rmL_frz cs h]
 | .tup cs,h=>by simp only[PV.lt]at h; rw[PV.rm,rmL_frz cs h]
 | .fn h' cs,h=>by simp only[PV.lt]at h; rw[PV.rm,rmL_frz cs h]
 | .bm h' cs,h=>by simp only[PV.lt]at h; rw[PV.rm,rmL_frz cs h]
 | .iface t p,h=>by simp only[PV.lt]at h; rw[PV.rm,rm_frz p h]
theorem rmL_frz {f g:Nat->Nat}:∀(l:List PV),PV.ltL 0 0 l=true->PV.rmL f g l=l
 | [],_=>rfl
 |p::r,h=>by
  simp only[PV.ltL,Bool.and_eq_true]at h
  rw[PV.rmL,rm_frz p h.1,rmL_frz r h.2]
end
theorem OkI.mono' {P:Program}{f:FuncId}{args:List PV}{st:PS}{Q Q':PV->PS->Prop}(h:OkI P f args st Q)(k:∀r s,Q r s->Q' r s):OkI P f args st Q':=
 ⟨h.1,fun own S0 w0 w C vals R hn hr=>(h.2 own S0 w0 w C vals R hn hr).mono (by
  rintro e w' ⟨r,s,v,C',hq,rest⟩
  exact⟨r,s,v,C',k r s hq,rest⟩)⟩
section
variable {P:Program}
theorem RepV.backT {C C0:Cx}{T T0:List (Nat×Tok)}{U V:Nat->Prop}{f g:Nat->Nat}{m mt:Nat}(hS:SLe C.S C0.S)(hρ:∀i,i<m->C0.ρ i=C.ρ (f i))(hτ:∀i,i<mt->C0.τ i=C.τ (g i))(hT:∀i t,lkp T0 i=some t->lkp T (g i)=some t){v:Value}{q:PV}(r:RepV C T U V v q) :
  ∀{p:PV},p.rm f g=q->p.lt m mt=true->RepV C0 T0 (· < m) (· < mt) v p:=by
 induction r with
 | @frz v q h=>
  intro p e hl
  cases p with
  |val u=>simp only[PV.rm]at e; subst e; exact .frz (h.mono hS)
  |sl xs=>simp only[PV.rm]at e; subst e; exact .frz (h.mono hS)
  |_=>simp only[PV.rm]at e; subst e; cases h
 | @row v tok xs h hk ht=>
  intro p e hl
  cases p with
  |row k ys=>
   simp only[PV.rm,PV.row.injEq]at e
   obtain⟨e1,rfl⟩:=e
   have hi:k<mt:=by simpa [PV.lt]using hl
   refine .row (h.mono hS) hi (fun t h'=>?_)
   obtain⟨g1,g2,g3⟩:=ht t (e1▸hT k t h')
   exact⟨g1,g2,fun e=>by rw[hτ k hi,e1]; exact g3 e⟩
  |_=>simp[PV.rm]at e
 | @ptr id off h=>
  intro p e hl
  cases p with
  |ptr i o=>
   simp only[PV.rm,PV.ptr.injEq]at e
   obtain⟨e1,rfl⟩:=e
   have hi:i<m:=by simpa [PV.lt]using hl
   rw[<-e1,<-hρ i hi]
   exact .ptr hi
  |_=>simp[PV.rm]at e
 | @ms id lo n cap h hc=>
  intro p e hl
  cases p with
  |ms i lo' n' cap'=>
   simp only[PV.rm,PV.ms.injEq]at e
   obtain⟨e1,rfl,rfl,rfl⟩:=e
   have hi:i<m:=by simpa [PV.lt]using hl
   rw[<-e1,<-hρ i hi]
   exact .ms hi hc
  |_=>simp[PV.rm]at e
 |fp h=>
  intro p e hl
  cases p with
  |fp cs=>simp only[PV.rm,PV.fp.injEq]at e; subst e; exact .fp (fun i p hp=>by obtain⟨u,h1,h2⟩:=h i p hp; exact⟨u,hS _ _ _ h1,h2.mono hS⟩)
  |_=>simp[PV.rm]at e
 |agg hs h h1 ih=>
  intro p e hl
  cases p with
  |agg cs=>
   simp only[PV.rm,PV.agg.injEq]at e
   subst e
   rw[rmL_len]at hs
   refine .agg hs (fun i v p hv hp=>?_) h1
   exact ih i v (p.rm f g) hv (by rw[rmL_get,hp]; rfl) rfl (ltL_get (by simpa [PV.lt]using hl) p (List.mem_of_getElem? hp))
  |_=>simp[PV.rm]at e
 |tup hs h ih=>
  intro p e hl
  cases p with
  |tup cs=>
   simp only[PV.rm,PV.tup.injEq]at e
   subst e
   rw[rmL_len]at hs
   exact .tup hs (fun i v p hv hp=>ih i v (p.rm f g) hv (by rw[rmL_get,hp]; rfl) rfl (ltL_get (by simpa [PV.lt]using hl) p (List.mem_of_getElem? hp)))
  |_=>simp[PV.rm]at e
 |fn hs h ih=>
  intro p e hl
  cases p with
  |fn h' cs=>
   simp only[PV.rm,PV.fn.injEq]at e
   obtain⟨rfl,rfl⟩:=e
   rw[rmL_len]at hs
   exact .fn hs (fun i v p hv hp=>ih i v (p.rm f g) hv (by rw[rmL_get,hp]; rfl) rfl (ltL_get (by simpa [PV.lt]using hl) p (List.mem_of_getElem? hp)))
  |_=>simp[PV.rm]at e
 |bm hs h ih=>
  intro p e hl
  cases p with
  |bm h' cs=>
   simp only[PV.rm,PV.bm.injEq]at e
   obtain⟨rfl,rfl⟩:=e
   rw[rmL_len]at hs
   exact .bm hs (fun i v p hv hp=>ih i v (p.rm f g) hv (by rw[rmL_get,hp]; rfl) rfl (ltL_get (by simpa [PV.lt]using hl) p (List.mem_of_getElem? hp)))
  |_=>simp[PV.rm]at e
 |iface h ih=>
  intro p e hl
  cases p with
  |iface t p=>
   simp only[PV.rm,PV.iface.injEq]at e
   obtain⟨rfl,e⟩:=e
   exact .iface (ih e (by simpa [PV.lt]using hl))
  |_=>simp[PV.rm]at e
theorem rnF_low {l:List Nat}{nx:Nat}(hlt:∀j∈l,j<nx):∀i,i<l.length->rnF l nx i∈l/\rnF l nx i<nx/\l[i]? = some (rnF l nx i):=fun i hi=>by
 have h1:l[i]? = some (l[i]'(by omega)):=List.getElem?_eq_getElem (by omega)
 have:rnF l nx i=l[i]'(by omega):=by unfold rnF; rw[h1]
 rw[this]
 exact⟨List.getElem_mem _,hlt _ (List.getElem_mem _),h1⟩
theorem rnF_high {l:List Nat}{nx:Nat}:∀i,l.length<=i->rnF l nx i=i-l.length+nx:=fun i hi=>by
 have h1:l[i]? = none:=List.getElem?_eq_none (by omega)
 unfold rnF; rw[h1]
theorem rnF_inj {l:List Nat}{nx:Nat}(hnd:l.Nodup)(hlt:∀j∈l,j<nx):∀i j,rnF l nx i=rnF l nx j->i=j:=fun i j e=>by
 rcases Nat.lt_or_ge i l.length with h1|h1<;>rcases Nat.lt_or_ge j l.length with h2|h2
 ·obtain⟨_,_,g1⟩:=rnF_low hlt i h1
  obtain⟨_,_,g2⟩:=rnF_low hlt j h2
  rw[<-e]at g2
  exact(List.getElem?_inj (show i<l.length by omega) hnd).1 (g1.trans g2.symm)
 ·have:=(rnF_low hlt i h1).2.1; rw[e,rnF_high j h2]at this; omega
 ·have:=(rnF_low hlt j h2).2.1; rw[<-e,rnF_high i h1]at this; omega
 ·rw[rnF_high i h1,rnF_high j h2]at e; omega
set_option maxHeartbeats 1000000 in
theorem OkI.frameT {g0:FuncId}{st:PS}{h0:List (Nat×PObj)}{t0:List (Nat×Tok)}{as0 ags:List PV}{Q:PV->PS->Prop}(l lt:List Nat)(ok:OkI P g0 as0 ⟨[],h0,t0,l.length,lt.length⟩ Q)(hnd:l.Nodup)(hlt:∀j∈l,j<st.nx)
  (hndt:lt.Nodup) (hltt:∀j∈lt,j<st.nt)
  (hh:∀e∈h0,e.1<l.length/\e.2.lt l.length lt.length=true/\lkp st.heap (rnF l st.nx e.1)=some (e.2.rm (rnF l st.nx) (rnF lt st.nt)))
  (ht:∀e∈t0,e.1<lt.length/\lkp st.toks (rnF lt st.nt e.1)=some e.2)
  (hal:PV.ltL l.length lt.length as0=true) (ha:PV.rmL (rnF l st.nx) (rnF lt st.nt) as0=ags) :
  OkI P g0 ags st (fun r st'=>∃r0 s,Q r0 s/\r=r0.rm (rnF l st.nx) (rnF lt st.nt)/\st'=⟨st.env,rmH (rnF l st.nx) (rnF lt st.nt) s.heap++dropH l st.heap,rmK (rnF lt st.nt) s.toks++dropK lt st.toks,s.nx-l.length+st.nx,s.nt-lt.length+st.nt⟩):=by
 subst ha
 have flow0:=rnF_low hlt
 have fhigh0:=rnF_high (l:=l) (nx:=st.nx)
 have inj0:=rnF_inj hnd hlt
 have glow0:=rnF_low hltt
 have ghigh0:=rnF_high (l:=lt) (nx:=st.nt)
 have ginj0:=rnF_inj hndt hltt
 obtain⟨m,hm⟩:∃m,m=l.length:=⟨_,rfl⟩
 obtain⟨mt,hmt⟩:∃m,m=lt.length:=⟨_,rfl⟩
 obtain⟨f,hf⟩:∃f,f=rnF l st.nx:=⟨_,rfl⟩
 obtain⟨g,hg⟩:∃g,g=rnF lt st.nt:=⟨_,rfl⟩
 rw[<-hf,<-hg]at hh ⊢
 rw[<-hg]at ht
 rw[<-hm,<-hmt]at ok hh hal ⊢
 rw[<-hmt]at ht
 rw[<-hf,<-hm]at flow0
 rw[<-hf]at inj0
 rw[<-hf,<-hm]at fhigh0
 rw[<-hg,<-hmt]at glow0
 rw[<-hg]at ginj0
 rw[<-hg,<-hmt]at ghigh0
 have flow:=flow0
 have fhigh:=fhigh0
 have inj:=inj0
 have glow:=glow0
 have ghigh:=ghigh0
 have ginj:=ginj0
 have hh':∀i o,lkp h0 i=some o->i<m/\o.lt m mt=true/\lkp st.heap (f i)=some (o.rm f g):=fun i o h=>hh _ (lkp_mem h)
 have ht':∀i t,lkp t0 i=some t->i<mt/\lkp st.toks (g i)=some t:=fun i o h=>ht _ (lkp_mem h)
 refine⟨ok.1,fun own S0 w0 w C vals R hn hr=>?_⟩
 let own':Nat->Prop:=fun b=>(∃i o,lkp h0 i=some o/\b=C.ρ (f i))∨(∃k t,lkp t0 k=some t/\b=(C.τ (g k)).1)
 let Ci:Cx:=⟨fun i=>C.ρ (f i),fun k=>C.τ (g k),C.S⟩
 have own'_ok:∀b,own' b->b<w.heap.size/\(own b∨w0.heap.size<=b):=by
  rintro b (⟨i,o,h,rfl⟩|⟨k,t,h,rfl⟩)
  ·exact⟨(R.hown _ _ (hh' i o h).2.2).2.1,(R.hown _ _ (hh' i o h).2.2).2.2.1⟩
  ·obtain⟨g1,g2,⟨us,g3,g4⟩,_⟩:=R.tok _ _ (ht' k t h).2
   exact⟨(Array.getElem?_eq_some_iff.1 g3).1,g2⟩
 have hs0:=R.frame.size
 have bk:∀{v:Value} {p:PV},RepV C st.toks (· < st.nx) (· < st.nt) v (p.rm f g)->p.lt m mt=true->RepV Ci t0 (· < m) (· < mt) v p:=fun r hl=>
  RepV.backT (C:=C) (C0:=Ci) (f:=f) (g:=g) (m:=m) (mt:=mt) (SLe.refl _) (fun _ _=>rfl) (fun _ _=>rfl) (fun i t h=>(ht' i t h).2) r rfl hl
 have Rin:Rel own' ⟨C.S,Ci,t0,(· < m),(· < mt)⟩ w Ci (· < m) (· < mt) ⟨[],h0,t0,m,mt⟩ w:=by
  refine⟨Frame.refl _ _,R.stable,?_,?_,?_,?_,?_,?_,?_,fun b o v h=> .inl h,SLe.refl _,Ext.refl _ _ _ _,⟨R.known.2,R.known.1,?_⟩⟩
  ·intro i T cs h
   obtain⟨h1,h2,h3⟩:=hh' i _ h
   obtain⟨us,g1,g2,g3⟩:=R.box _ T _ h3
   rw[rmL_len]at g2
   refine⟨us,g1,g2,fun k v p hv hp=>?_⟩
   obtain⟨g4,g5⟩:=g3 k v (p.rm f g) hv (by rw[rmL_get,hp]; rfl)
   exact⟨g4,bk g5 (ltL_get h2 p (List.mem_of_getElem? hp))⟩
  ·intro i s pos h
   exact R.iter _ s pos (hh' i _ h).2.2
  ·intro i o h
   obtain⟨h1,h2,h3⟩:=hh' i o h
   obtain⟨g1,g2,g3,g4⟩:=R.hown _ _ h3
   exact⟨h1,g2,.inl (.inl ⟨i,o,h,rfl⟩),g4⟩
  ·intro i j oi oj h1 h2 he
   exact inj i j (R.hinj _ _ _ _ (hh' i oi h1).2.2 (hh' j oj h2).2.2 he)
  ·intro k t h
   obtain⟨h1,h2⟩:=ht' k t h
   obtain⟨g1,g2,g3,g4⟩:=R.tok _ _ h2
   exact⟨h1,.inl (.inr ⟨k,t,h,rfl⟩),g3,g4⟩
  ·intro i oi k t h1 h2
   exact R.tbox _ _ _ _ (hh' i oi h1).2.2 (ht' k t h2).2
  ·intro i j ti tj h1 h2 he
   exact ginj i j (R.tinj _ _ _ _ (ht' i ti h1).2 (ht' j tj h2).2 he)
  ·intro b hb ho
   obtain⟨_,g3⟩:=own'_ok b ho
   rcases g3 with g3|g3
   ·exact R.glob.own _ hb g3
   ·have:=R.glob.size; omega
 refine(ok.2 own' ⟨C.S,Ci,t0,(· < m),(· < mt)⟩ w w Ci vals Rin (by rw[hn,rmL_len]) (fun i v p hv hp=>?_)).mono ?_
 ·exact bk (hr i v (p.rm f g) hv (by rw[rmL_get,hp]; rfl)) (ltL_get hal p (List.mem_of_getElem? hp))
 rintro e w' ⟨r0,s,v,C1,hq,rfl,R1,X1,hrep⟩
 have hms:m<=s.nx:=by
  rcases Nat.eq_zero_or_pos m with h|h
  ·omega
  ·have:m-1<s.nx:=X1.nx (m-1) (by show m-1<m; omega)
   omega
 have hmst:mt<=s.nt:=by
  rcases Nat.eq_zero_or_pos mt with h|h
  ·omega
  ·have:mt-1<s.nt:=X1.nt (mt-1) (by show mt-1<mt; omega)
   omega
 have ρ1:∀i,i<m->C1.ρ i=C.ρ (f i):=fun i hi=>X1.ρ i hi
 have hH:∀j,st.nx<=j->lkp st.heap j=none:=fun j hj=>by
  cases h:lkp st.heap j with
  |none=>rfl
  |some o=>have:=(R.hown j o h).1; omega
 have hT:∀j,st.nt<=j->lkp st.toks j=none:=fun j hj=>by
  cases h:lkp st.toks j with
  |none=>rfl
  |some o=>have:=(R.tok j o h).1; omega
 have lDk:=dropK_lkp lt st.toks
 have bel:∀k,k<w.heap.size->¬own' k->w'.heap[k]? = w.heap[k]? :=fun k hk hn=>R1.frame.block k hk hn
 have ltw:∀{b:Nat} {x:Obj},w.heap[b]? = some x->b<w.heap.size:=fun h=>(Array.getElem?_eq_some_iff.1 h).1
 have snone:∀b o,b<w.heap.size->¬own' b->C.S b o=none->C1.S b o=none:=fun b o hb hno h=>by
  cases h':C1.S b o with
  |none=>rfl
  |some v=>
   rcases R1.snew b o v h' with h1|h1|h1
   ·replace h1:C.S b o=some v:=h1
    rw[h]at h1; cases h1
   ·exact absurd h1 hno
   ·omega
 have apart:∀j o,lkp st.heap j=some o->j ∉ l->¬own' (C.ρ j):=by
  rintro j o h hj (⟨i,o',h1,h2⟩|⟨k,t,h1,h2⟩)
  ·obtain⟨g1,_,g3⟩:=hh' i o' h1
   have:=R.hinj _ _ _ _ h g3 h2
   rw[this]at hj
   exact hj (flow i g1).1
  ·exact R.tbox _ _ _ _ h (ht' k t h1).2 h2
 have tokApart:∀k t,lkp st.toks k=some t->k ∉ lt->¬own' (C.τ k).1:=by
  rintro k t h hk (⟨i,o,h1,h2⟩|⟨k',t',h1,h2⟩)
  ·exact R.tbox _ _ k t (hh' i o h1).2.2 h h2.symm
  ·obtain⟨g1,g3⟩:=ht' k' t' h1
   have:=R.tinj _ _ _ _ h g3 h2
   rw[this]at hk
   exact hk (glow k' g1).1
 have placeB:∀i o,lkp s.heap i=some o->own' (C1.ρ i)∨w.heap.size<=C1.ρ i:=fun i o h=>(R1.hown i o h).2.2.1
 have placeT:∀i t,lkp s.toks i=some t->own' (C1.τ i).1∨w.heap.size<=(C1.τ i).1:=fun i t h=>(R1.tok i t h).2.1
 let C2:Cx:=⟨fun j=>if j∈l then C.ρ j else if j<st.nx then C.ρ j else C1.ρ (j-st.nx+m),fun j=>if j∈lt then C1.τ (lt.idxOf j) else if j<st.nt then C.τ j else C1.τ (j-st.nt+mt),C1.S⟩
 have ρo:∀i,i<st.nx->C2.ρ i=C.ρ i:=fun i h=>by
  show(if _ then _ else if _ then _ else _)=_
  by_cases hi:i∈l
  ·rw[if_pos hi]
  ·rw[if_neg hi,if_pos h]
 have ρf:∀i,C2.ρ (f i)=C1.ρ i:=fun i=>by
  rcases Nat.lt_or_ge i m with h|h
  ·rw[ρo _ (flow i h).2.1,ρ1 i h]
  ·rw[fhigh i h]
   show(if _ then _ else if _ then _ else _)=_
   rw[if_neg (fun hj=>by have:=hlt _ hj; omega),if_neg (by omega)]
   congr 1; omega
 have τo:∀i,i<st.nt->i ∉ lt->C2.τ i=C.τ i:=fun i h hi=>by
  show(if _ then _ else if _ then _ else _)=_
  rw[if_neg hi,if_pos h]
 have τg:∀i,C2.τ (g i)=C1.τ i:=fun i=>by
  rcases Nat.lt_or_ge i mt with h|h
  ·obtain⟨g1,g2,g3⟩:=glow i h
   show(if _ then _ else if _ then _ else _)=_
   rw[if_pos g1]
   congr 1
   have h4:lt[lt.idxOf (g i)]? = some (g i):=by
    rw[List.getElem?_eq_getElem (List.idxOf_lt_length_iff.2 g1),List.getElem_idxOf]
   exact(List.getElem?_inj (List.idxOf_lt_length_iff.2 g1) hndt).1 (h4.trans g3.symm)
  ·rw[ghigh i h]
   show(if _ then _ else if _ then _ else _)=_
   rw[if_neg (fun hj=>by have:=hltt _ hj; omega),if_neg (by omega)]
   congr 1; omega
 have fU:∀i,i<s.nx->f i<s.nx-m+st.nx:=fun i hi=>by
  rcases Nat.lt_or_ge i m with h|h
  ·have:=(flow i h).2.1; omega
  ·rw[fhigh i h]; omega
 have gU:∀i,i<s.nt->g i<s.nt-mt+st.nt:=fun i hi=>by
  rcases Nat.lt_or_ge i mt with h|h
  ·have:=(glow i h).2.1; omega
  ·rw[ghigh i h]; omega
 have lD:=dropH_lkp l st.heap
 have split:∀j o,lkp (rmH f g s.heap++dropH l st.heap) j=some o->(j<st.nx/\j ∉ l/\lkp st.heap j=some o/\C2.ρ j=C.ρ j)∨(∃i o',j=f i/\lkp s.heap i=some o'/\o=o'.rm f g/\C2.ρ j=C1.ρ i):=fun j o h=>by
  by_cases hj:∃i,f i=j
  ·obtain⟨i,rfl⟩:=hj
   rw[rmH_lkp inj]at h
   ·obtain⟨o',h1,rfl⟩:=Option.map_eq_some_iff.1 h
    exact .inr ⟨i,o',rfl,h1,rfl,ρf i⟩
   ·rw[lD]
    rcases Nat.lt_or_ge i m with hi|hi
    ·rw[if_pos (flow i hi).1]
    ·split
     ·rfl
     ·exact hH _ (by rw[fhigh i hi]; omega)
  ·rw[rmH_out _ j (fun i e=>hj ⟨i,e⟩),lD]at h
   split at h
   ·cases h
   ·rename_i hjl
    have hjx:j<st.nx:=(R.hown j o h).1
    exact .inl ⟨hjx,hjl,h,ρo j hjx⟩
 have splitT:∀j t,lkp (rmK g s.toks++dropK lt st.toks) j=some t->(j<st.nt/\j ∉ lt/\lkp st.toks j=some t/\C2.τ j=C.τ j)∨(∃i,j=g i/\lkp s.toks i=some t/\C2.τ j=C1.τ i):=fun j t h=>by
  by_cases hj:∃i,g i=j
  ·obtain⟨i,rfl⟩:=hj
   rw[rmK_lkp ginj]at h
   ·exact .inr ⟨i,rfl,h,τg i⟩
   ·rw[lDk]
    rcases Nat.lt_or_ge i mt with hi|hi
    ·rw[if_pos (glow i hi).1]
    ·split
     ·rfl
     ·exact hT _ (by rw[ghigh i hi]; omega)
  ·rw[rmK_out _ j (fun i e=>hj ⟨i,e⟩),lDk]at h
   split at h
   ·cases h
   ·rename_i hjl
    have hjx:j<st.nt:=(R.tok j t h).1
    exact .inl ⟨hjx,hjl,h,τo j hjx hjl⟩
 have X:Ext C C2 st.toks (rmK g s.toks++dropK lt st.toks) (· < st.nx) (· < st.nt) (· < s.nx-m+st.nx) (· < s.nt-mt+st.nt):=by
  refine⟨R1.sold,fun i hi=>ρo i hi,fun k t hk h=>?_,fun i (hi:i<st.nx)=>Nat.lt_of_lt_of_le hi (Nat.le_add_left _ _),fun i (hi:i<st.nt)=>Nat.lt_of_lt_of_le hi (Nat.le_add_left _ _)⟩
  have hk':k<st.nt:=hk
  rcases splitT k t h with⟨h1,h2,h3,h4⟩|⟨i,h1,h2,h3⟩
  ·exact⟨t,h3,Nat.le_refl _,rfl,fun _=>h4⟩
  ·have hi:i<mt:=by
    rcases Nat.lt_or_ge i mt with hi|hi
    ·exact hi
    ·rw[ghigh i hi]at h1; omega
   obtain⟨t1,g1,g2,g3,g4⟩:=X1.tok i t hi h2
   exact⟨t1,by rw[h1]; exact(ht' i t1 g1).2,g2,g3,fun e=>by rw[h3,g4 e,h1]⟩
 have shV:∀{v:Value} {p:PV},RepV C1 s.toks (· < s.nx) (· < s.nt) v p->RepV C2 (rmK g s.toks++dropK lt st.toks) (· < s.nx-m+st.nx) (· < s.nt-mt+st.nt) v (p.rm f g):=fun r=>by
  refine RepV.rm (C:=C1) (C':=C2) (SLe.refl _) (fun i (hi:i<s.nx)=>⟨ρf i,fU i hi⟩) (fun k (hk:k<s.nt)=>⟨τg k,gU k hk,fun t h=>?_⟩) r
  rcases splitT _ t h with⟨h1,h2,h3,h4⟩|⟨i,h1,h2,h3⟩
  ·exfalso
   rcases Nat.lt_or_ge k mt with hi|hi
   ·exact h2 (glow k hi).1
   ·rw[ghigh k hi]at h1; omega
  ·rw[ginj _ _ h1]; exact h2
 have far:∀b,own' b∨w.heap.size<=b->own b∨w0.heap.size<=b:=fun b h=>by
  rcases h with h|h
  ·exact(own'_ok b h).2
  ·exact .inr (by omega)
 refine⟨_,_,v,C2,⟨r0,s,hq,rfl,rfl⟩,rfl,⟨⟨R1.frame.os.trans R.frame.os,R1.frame.tape.trans R.frame.tape,R1.frame.output.trans R.frame.output,Nat.le_trans hs0 R1.frame.size,fun k hk hn=>?_⟩,R1.stable,?_,?_,?_,?_,?_,?_,?_,?_,fun b o v h=>R1.sold b o v (R.sold b o v h),R.base.trans X,R.glob⟩,X,shV hrep⟩
 ·rw[bel k (by omega) (fun h=>?_)]
  ·exact R.frame.block k hk hn
  ·rcases(own'_ok k h).2 with h1|h1
   ·exact hn h1
   ·omega
 ·intro j T cs h
  rcases split j _ h with⟨h1,h2,h3,h4⟩|⟨i,o',h1,h2,h3,h4⟩
  ·obtain⟨us,g1,g2,g3⟩:=R.box j T cs h3
   exact⟨us,by rw[h4,bel _ (ltw g1) (apart j _ h3 h2)]; exact g1,g2,fun i v p hv hp=>⟨(g3 i v p hv hp).1,(g3 i v p hv hp).2.ext X⟩⟩
  ·cases o' with
   |iter s pos=>cases h3
   |box T' cs'=>
    obtain⟨rfl,rfl⟩:=PObj.box.inj h3
    obtain⟨us,g1,g2,g3⟩:=R1.box _ T cs' h2
    refine⟨us,by rw[h4]; exact g1,by rw[rmL_len]; exact g2,fun i v p hv hp=>?_⟩
    rw[rmL_get]at hp
    obtain⟨q,hq,rfl⟩:=Option.map_eq_some_iff.1 hp
    exact⟨(g3 i v q hv hq).1,shV (g3 i v q hv hq).2⟩
 ·intro j sx pos h
  rcases split j _ h with⟨h1,h2,h3,h4⟩|⟨i,o',h1,h2,h3,h4⟩
  ·have g1:=R.iter j sx pos h3
   rw[h4,bel _ (ltw g1) (apart j _ h3 h2)]; exact g1
  ·cases o' with
   |box T' cs'=>cases h3
   |iter s' pos'=>
    obtain⟨rfl,rfl⟩:=PObj.iter.inj h3
    rw[h4]; exact R1.iter _ _ _ h2
 ·intro j o h
  rcases split j _ h with⟨h1,h2,h3,h4⟩|⟨i,o',h1,h2,h3,h4⟩
  ·obtain⟨g1,g2,g3,g4⟩:=R.hown j o h3
   exact⟨by show j<s.nx-m+st.nx; omega,by rw[h4]; have:=R1.frame.size; omega,by rw[h4]; exact g3,fun o'=>by rw[h4]; exact snone _ o' g2 (apart j _ h3 h2) (g4 o')⟩
  ·obtain⟨g1,g2,g3,g4⟩:=R1.hown _ o' h2
   exact⟨by rw[h1]; exact fU i g1,by rw[h4]; exact g2,by rw[h4]; exact far _ (placeB i o' h2),fun o'=>by rw[h4]; exact g4 o'⟩
 ·intro i j oi oj h1 h2 he
  rcases split i _ h1 with⟨a1,a2,a3,a4⟩|⟨i',o1,a1,a2,a3,a4⟩<;>rcases split j _ h2 with⟨b1,b2,b3,b4⟩|⟨j',o2,b1,b2,b3,b4⟩
  ·rw[a4,b4]at he; exact R.hinj i j _ _ a3 b3 he
  ·rw[a4,b4]at he
   rcases placeB _ _ b2 with h|h
   ·rw[<-he]at h; exact absurd h (apart i _ a3 a2)
   ·have:=(R.hown i _ a3).2.1; omega
  ·rw[a4,b4]at he
   rcases placeB _ _ a2 with h|h
   ·rw[he]at h; exact absurd h (apart j _ b3 b2)
   ·have:=(R.hown j _ b3).2.1; omega
  ·rw[a4,b4]at he
   rw[a1,b1,R1.hinj _ _ _ _ a2 b2 he]
 ·intro k t h
  rcases splitT k t h with⟨h1,h2,h3,h4⟩|⟨i,h1,h2,h3⟩
  ·obtain⟨g1,g2,⟨us,g3,g4⟩,g5,g6,g7⟩:=R.tok k t h3
   rw[h4]
   exact⟨by show k<s.nt-mt+st.nt; omega,g2,⟨us,by rw[bel _ (ltw g3) (tokApart k t h3 h2)]; exact g3,g4⟩,g5,g6,fun o ho=>snone _ o (ltw g3) (tokApart k t h3 h2) (g7 o ho)⟩
  ·obtain⟨g1,g2,g3,g5,g6,g7⟩:=R1.tok _ t h2
   rw[h3]
   exact⟨by rw[h1]; exact gU i g1,far _ (placeT _ _ h2),g3,g5,g6,g7⟩
 ·intro i oi k t h1 h2
  rcases split i _ h1 with⟨a1,a2,a3,a4⟩|⟨i',o1,a1,a2,a3,a4⟩<;>rcases splitT k t h2 with⟨b1,b2,b3,b4⟩|⟨k',b1,b2,b3⟩
  ·rw[a4,b4]; exact R.tbox i _ k t a3 b3
  ·rw[a4,b3]
   intro he
   rcases placeT _ _ b2 with h|h
   ·rw[<-he]at h; exact apart i _ a3 a2 h
   ·have:=(R.hown i _ a3).2.1; omega
  ·rw[a4,b4]
   intro he
   obtain⟨_,_,⟨us,g3,_⟩,_⟩:=R.tok k t b3
   rcases placeB _ _ a2 with h|h
   ·rw[he]at h; exact tokApart k t b3 b2 h
   ·have:=ltw g3; omega
  ·rw[a4,b3]; exact R1.tbox _ _ _ t a2 b2
 ·intro i j ti tj h1 h2 he
  rcases splitT i _ h1 with⟨a1,a2,a3,a4⟩|⟨i',a1,a2,a3⟩<;>rcases splitT j _ h2 with⟨b1,b2,b3,b4⟩|⟨j',b1,b2,b3⟩
  ·rw[a4,b4]at he; exact R.tinj i j _ _ a3 b3 he
  ·rw[a4,b3]at he
   obtain⟨_,_,⟨us,g3,_⟩,_⟩:=R.tok i _ a3
   rcases placeT _ _ b2 with h|h
   ·rw[<-he]at h; exact absurd h (tokApart i _ a3 a2)
   ·have:=ltw g3; omega
  ·rw[a3,b4]at he
   obtain⟨_,_,⟨us,g3,_⟩,_⟩:=R.tok j _ b3
   rcases placeT _ _ a2 with h|h
   ·rw[he]at h; exact absurd h (tokApart j _ b3 b2)
   ·have:=ltw g3; omega
  ·rw[a3,b3]at he
   have:=R1.tinj _ _ _ _ a2 b2 he
   rw[a1,b1,this]
 ·intro b o u h
  rcases R1.snew b o u h with h1|h1
  ·exact R.snew b o u h1
  ·exact .inr (far b h1)
def frR (p:PV):PV:=(fzA p).getD p
theorem frR_rep {C:Cx}{T:List (Nat×Tok)}{U V:Nat->Prop}{v:Value}{p:PV}(r:RepV C T U V v p):RepV C T U V v (frR p):=by
 unfold frR
 cases h:fzA p with
 |none=>exact r
 |some q=>exact(fzA_rep h r).up
def outF (P:Program)(fn:Func)(L:Nat×Nat)(Q:PV->PS->Prop):Exit->PS->Prop
 | .normal,st=>bindO (resAll P st fn.results.toList) fun l=>∃st',Q (packR (l.map frR)) st'/\Weak L { st with env:=[(0,packR (l.map frR))] } { st' with env:=[(0,packR (l.map frR))] }
 | .ret,st=>bindO (resAll P st fn.results.toList) fun l=>∃st',Q (packR (l.map frR)) st'/\Weak L { st with env:=[(0,packR (l.map frR))] } { st' with env:=[(0,packR (l.map frR))] }
 |_,_=>False
theorem OkI.of_pwpF (hm:P.follows .mixedOrders=true){f:FuncId}{fn:Func}{c:Code}{args:List PV}{st:PS}{Q:PV->PS->Prop}(hf:P.funcs[f]? = some fn)(hb:fn.body=some c)(hent:enters P f=true)
  {bar:Nat->Option Nat} (hfit:fitsC bar (args.length+(fn.ntmps-args.length)) c=true) (h:pwp P ⟨(st.nx,st.nt),bar⟩ c { st with env:=enterEnv 0 args } (outF P fn (st.nx,st.nt) Q)):OkI P f args st Q:=by
 refine⟨hent,fun own S0 w0 w C vals R hsz hrep=>?_⟩
 refine calls_of_wp hf hb ?_
 have hst:Stt own ⟨S0.S,C,st.toks,(· < st.nx),(· < st.nt)⟩ w0 (args.length+(fn.ntmps-args.length)) { st with env:=enterEnv 0 args } { tmps:=vals++Array.replicate (fn.ntmps-vals.size) undef,defers:=[] } w:=by
  refine⟨rfl,by simp[hsz],C,⟨R.frame,R.stable,R.box,R.iter,R.hown,R.hinj,R.tok,R.tbox,R.tinj,R.snew,R.sold,Ext.refl _ _ _ _,R.glob⟩,?_⟩
  intro t p h
  obtain⟨_,h2⟩:=enterEnv_lkp args 0 t p h
  rw[Nat.sub_zero]at h2
  have ht:t<vals.size:=by rw[hsz]; exact(List.getElem?_eq_some_iff.1 h2).1
  have hv:vals[t]? = some vals[t]:=Array.getElem?_eq_getElem ht
  refine⟨vals[t],?_,hrep t _ p hv h2⟩
  show(vals++Array.replicate _ undef)[t]? = _
  rw[Array.getElem?_append_left ht]
  exact hv
 refine wp_mono (pwp_sound hm ⟨fun _ h=>h,fun _ h=>h⟩ c _ _ _ w hfit h hst) ?_
 have fin:∀(s:PS) (a':Act) (w':World),Stt own ⟨S0.S,C,st.toks,(· < st.nx),(· < st.nt)⟩ w0 (args.length+(fn.ntmps-args.length)) s a' w' ->
   (bindO (resAll P s fn.results.toList) fun l=>∃st',Q (packR (l.map frR)) st'/\Weak (st.nx,st.nt) { s with env:=[(0,packR (l.map frR))] } { st' with env:=[(0,packR (l.map frR))] }) ->
   a'.defers=[]/\∃v,(results fn a'.tmps).run P w' = .ok v w'/\∃r st' v' C',Q r st'/\Ending.returned v=Ending.returned v'/\Rel own S0 w0 C' (· < st'.nx) (· < st'.nt) st' w' /\
    Ext C C' st.toks st'.toks (· < st.nx) (· < st.nt) (· < st'.nx) (· < st'.nt)/\RepV C' st'.toks (· < st'.nx) (· < st'.nt) v' r:=by
  intro s a' w' ⟨h1,h2,C1,R1,E1⟩ hk
  replace hk:=bindO_elim hk
  obtain⟨l,hl,st',hQ,hw⟩:=hk
  obtain⟨vs,g1,g2,g3⟩:=resAll_sound (P:=P) R1 E1 _ _ hl
  have hrun:(results fn a'.tmps).run P w' = .ok (if h:vs.toArray.size=1 then vs.toArray[0] else .tuple vs.toArray) w':=by
   rw[results_eq,Array.mapM_eq_mapM_toList,Sem.run_bind,Sem.run_map,g1]
   rfl
  have hrep:=packR_rep (vs:=vs) (l:=l.map frR) (by rw[List.length_map]; exact g2) (fun i v p hv hp=>by
   rw[List.getElem?_map]at hp
   obtain⟨q,hq,rfl⟩:=Option.map_eq_some_iff.1 hp
   exact frR_rep (g3 i v q hv hq))
  generalize (if h:vs.toArray.size=1 then vs.toArray[0] else .tuple vs.toArray)=v at hrun hrep
  have hs1:Stt own ⟨S0.S,C,st.toks,(· < st.nx),(· < st.nt)⟩ w0 1 { s with env:=[(0,packR (l.map frR))] } { tmps:= #[v],defers:=[] } w':=by
   refine⟨rfl,rfl,C1,R1.env_ _,?_⟩
   intro t p h
   simp only[lkp]at h
   split at h
   ·rename_i e
    subst e
    obtain rfl:=Option.some.inj h
    exact⟨v,rfl,hrep⟩
   ·cases h
  obtain⟨_,_,C2,R2,E2⟩:=hs1.weak ⟨fun _ h=>h,fun _ h=>h⟩ hw
  obtain⟨u,hu,hr⟩:=E2 0 (packR (l.map frR)) (by simp[lkp])
  have hu':u=v:=by simpa using hu.symm
  subst hu'
  refine⟨h1,u,hrun,packR (l.map frR),st',u,C2,hQ,rfl,?_,R2.base,hr⟩
  have R3:=R2.env_ st'.env
  exact⟨R3.frame,R3.stable,R3.box,R3.iter,R3.hown,R3.hinj,R3.tok,R3.tbox,R3.tinj,R3.snew,R3.sold,R.base.trans R2.base,R.glob⟩
 rintro e a' w' ⟨s,hq,hs⟩
 cases e with
 |normal=>exact fin s a' w' hs hq
 |ret=>exact fin s a' w' hs hq
 |_=>exact hq.elim
end
section
variable {P:Program} {own:Nat->Prop} {S0:Base} {w0 w:World} {C:Cx} {U V:Nat->Prop} {st:PS}
mutual
def PV.pf (i:Nat)(ds:List PV):PV->PV
 | .val v=> .val v
 | .sl xs=> .sl xs
 | .row k xs=> .row k xs
 | .ptr j o=>if j=i then .fp (ds.drop o) else .ptr j o
 | .ms i lo n c=> .ms i lo n c
 | .fp cs=> .fp cs
 | .agg cs=> .agg (PV.pfL i ds cs)
 | .tup cs=> .tup (PV.pfL i ds cs)
 | .fn h cs=> .fn h (PV.pfL i ds cs)
 | .bm h cs=> .bm h (PV.pfL i ds cs)
 | .iface t p=> .iface t (PV.pf i ds p)
def PV.pfL (i:Nat)(ds:List PV):List PV->List PV
 | []=>[]
 |p::r=>PV.pf i ds p::PV.pfL i ds r
end
end
def bar2 (r k:Nat)(b:Nat->Option Nat):Nat->Option Nat:=fun i=>if i=r then some k else b i
section
variable {P:Program} {l0:Nat×Nat} {st:PS} {Q:Exit->PS->Prop}
theorem p_skip_bar {id r k:Nat}{b:Nat->Option Nat}{ops:Array Oper}{dr:Bool}(h:id≠r):pwp P ⟨l0,bar2 r k b⟩ (.region id ops dr) st Q=pwp P ⟨l0,b⟩ (.region id ops dr) st Q:=by
 have:bar2 r k b id=b id:=if_neg h
 cases dr<;>simp only[pwp,this]
theorem p_tab2 {r k:Nat}{b:Nat->Option Nat}{l:List Oper}(hk:l.length<=k)(h:pwp P ⟨l0,oneBar r k⟩ (.region r l.toArray true) st Q):pwp P ⟨l0,bar2 r k b⟩ (.region r l.toArray true) st Q:=by
 have h1:bar2 r k b r=some k:=if_pos rfl
 have h2:oneBar r k r=some k:=if_pos rfl
 simp only[pwp,h1,h2]at h ⊢
 exact h
end
attribute [go_sem ↓] p_skip_bar
attribute [go_sem] PV.pf PV.pfL frR outF Option.getD_some Option.getD_none List.map_cons List.map_nil
attribute [go_sem] PV.rm PV.rmL PObj.rm rmH rmK dropK
end Go.Pw

end
section
namespace Go.Pw
open Go Go.RowKit
set_option linter.unusedVariables false
set_option linter.unusedSimpArgs false
section
variable {P:Program} {own:Nat->Prop} {S0:Base} {w0 w:World} {C:Cx} {U V:Nat->Prop} {st:PS}
theorem flatP_get {sz:Nat}(h0:0<sz):∀{xs:List (List PV)},(∀x∈xs,x.length=sz)->∀k,xs.flatten[k]? = (xs[k/sz]?).bind (·[k%sz]?)
 | [],_,k=>by simp
 |x::r,h,k=>by
  have hx:=h x (by simp)
  rw[List.flatten_cons]
  by_cases hk:k<sz
  ·rw[List.getElem?_append_left (by omega),Nat.div_eq_of_lt hk,Nat.mod_eq_of_lt hk]; rfl
  ·rw[List.getElem?_append_right (by omega),flatP_get h0 (fun y hy=>h y (by simp[hy])) (k-x.length),hx]
   have h1:k/sz=(k-sz)/sz+1:=by rw[<-Nat.sub_add_cancel (show sz<=k by omega)]; simp[Nat.add_div_right _ h0]
   have h2:k%sz=(k-sz)%sz:=by rw[Nat.mod_eq_sub_mod (by omega)]
   rw[h1,h2,List.getElem?_cons_succ]
theorem flatP_len {sz:Nat}:∀{xs:List (List PV)},(∀x∈xs,x.length=sz)->xs.flatten.length=xs.length*sz
 | [],_=>by simp
 |x::r,h=>by rw[List.flatten_cons,List.length_append,h x (by simp),flatP_len (fun y hy=>h y (by simp[hy])),List.length_cons,Nat.succ_mul]; omega
theorem Rel.drop1 (R:Rel own S0 w0 C U V st w)(l:List Nat):Rel own S0 w0 C U V { st with heap:=dropH l st.heap } w:=by
 have hd:∀j o,lkp (dropH l st.heap) j=some o->lkp st.heap j=some o:=fun j o h=>by
  rw[dropH_lkp]at h
  split at h
  ·cases h
  ·exact h
 exact⟨R.frame,R.stable,fun i T cs h=>R.box i T cs (hd _ _ h),fun i s pos h=>R.iter i s pos (hd _ _ h),fun i o h=>R.hown i o (hd _ _ h),fun i j oi oj h1 h2=>R.hinj i j oi oj (hd _ _ h1) (hd _ _ h2),R.tok,fun i oi k t h1 h2=>R.tbox i oi k t (hd _ _ h1) h2,R.tinj,R.snew,R.sold,R.base,R.glob⟩
theorem Rel.moveObj (R:Rel own S0 w0 C U V st w){id nid:Nat}{ob:PObj}(ho:lkp st.heap id=some ob)(hid:¬U nid){U':Nat->Prop}(hU:∀i,U i->U' i)(hU':U' nid)(nx':Nat) :
  Rel own S0 w0 (C.at nid (C.ρ id)) U' V { st with heap:=(nid,ob)::dropH [id] st.heap,nx:=nx' } w:=by
 have E:=R.ext_at (C.ρ id) nid hid hU
 have hne:∀j o,lkp st.heap j=some o->j≠nid:=fun j o h e=>hid (e▸(R.hown j o h).1)
 have hρ:∀j o,lkp st.heap j=some o->(C.at nid (C.ρ id)).ρ j=C.ρ j:=fun j o h=>by simp[Cx.at,hne j o h]
 have hnew:(C.at nid (C.ρ id)).ρ nid=C.ρ id:=by simp[Cx.at]
 have hd:∀j o,lkp ((nid,ob)::dropH [id] st.heap) j=some o->(j=nid/\o=ob)∨(j≠nid/\j≠id/\lkp st.heap j=some o):=fun j o h=>by
  rw[lkp_cons]at h
  split at h
  ·exact .inl ⟨by assumption,(Option.some.inj h).symm⟩
  ·rename_i hn
   rw[dropH_lkp]at h
   split at h
   ·cases h
   ·rename_i hm; exact .inr ⟨hn,by simpa using hm,h⟩
 refine⟨R.frame,R.stable,?_,?_,?_,?_,?_,?_,R.tinj,R.snew,R.sold,R.base.trans E,R.glob⟩
 ·intro j T cs h
  rcases hd j _ h with⟨rfl,rfl⟩|⟨h1,h2,h3⟩
  ·obtain⟨us,g1,g2,g3⟩:=R.box id T cs ho
   exact⟨us,by rw[hnew]; exact g1,g2,fun i v p hv hp=>⟨(g3 i v p hv hp).1,(g3 i v p hv hp).2.ext E⟩⟩
  ·obtain⟨us,g1,g2,g3⟩:=R.box j T cs h3
   exact⟨us,by rw[hρ j _ h3]; exact g1,g2,fun i v p hv hp=>⟨(g3 i v p hv hp).1,(g3 i v p hv hp).2.ext E⟩⟩
 ·intro j s pos h
  rcases hd j _ h with⟨rfl,rfl⟩|⟨h1,h2,h3⟩
  ·rw[hnew]; exact R.iter id s pos ho
  ·rw[hρ j _ h3]; exact R.iter j s pos h3
 ·intro j o h
  rcases hd j _ h with⟨rfl,rfl⟩|⟨h1,h2,h3⟩
  ·rw[hnew]; exact⟨hU',(R.hown id _ ho).2⟩
  ·rw[hρ j _ h3]; exact⟨hU _ (R.hown j _ h3).1,(R.hown j _ h3).2⟩
 ·intro i j oi oj h1 h2 he
  rcases hd i _ h1 with⟨rfl,rfl⟩|⟨a1,a2,a3⟩<;>rcases hd j _ h2 with⟨rfl,rfl⟩|⟨b1,b2,b3⟩
  ·rfl
  ·rw[hnew,hρ j _ b3]at he
   exact absurd (R.hinj _ _ _ _ ho b3 he).symm b2
  ·rw[hnew,hρ i _ a3]at he
   exact absurd (R.hinj _ _ _ _ a3 ho he) a2
  ·rw[hρ i _ a3,hρ j _ b3]at he
   exact R.hinj _ _ _ _ a3 b3 he
 ·intro k t h
  exact R.tok k t h
 ·intro i oi k t h1 h2
  rcases hd i _ h1 with⟨rfl,rfl⟩|⟨a1,a2,a3⟩
  ·rw[hnew]; exact R.tbox _ _ _ _ ho h2
  ·rw[hρ i _ a3]; exact R.tbox _ _ _ _ a3 h2
theorem ltL_drop' {a b:Nat}:∀{n:Nat}{l:List PV},PV.ltL a b l=true->PV.ltL a b (l.drop n)=true
 |0,l,h=>h
 |n+1,[],_=>rfl
 |n+1,p::r,h=>by
  simp only[PV.ltL,Bool.and_eq_true,List.drop_succ_cons]at h ⊢
  exact ltL_drop' h.2
theorem ltL_vals (a b:Nat):∀(l:List Value),PV.ltL a b (l.map .val)=true
 | []=>rfl
 |v::r=>by simp only[List.map_cons,PV.ltL,PV.lt,Bool.true_and]; exact ltL_vals a b r
theorem zeros_rep {T:List (Nat×Tok)}{z:Value}{sz n:Nat}(hzs:z.cells.size=sz)(h0:0<sz)(hz1:∀u∈z.cells.toList,u.oneCell'=true):RepL C T U V (Builtin.zeroCells z.cells n).toList ((Builtin.zeroCells z.cells n).toList.map .val):=by
 refine⟨by simp,fun i v p hv hp=>?_⟩
 rw[List.getElem?_map,hv]at hp
 obtain rfl:=Option.some.inj hp
 have h:(Builtin.zeroCells z.cells n)[i]? = some v:=by simpa using hv
 have h1:v.oneCell'=true:=by
  unfold Builtin.zeroCells at h
  rw[Array.getElem?_map]at h
  obtain⟨q,hq1,hq2⟩:=Option.map_eq_some_iff.1 h
  subst hq2
  have hlt:q%z.cells.size<z.cells.size:=Nat.mod_lt _ (by omega)
  rw[getElem!_pos z.cells _ hlt]
  exact hz1 _ (by simp)
 exact⟨h1,.frz (.val h1)⟩
theorem news_rep {T:List (Nat×Tok)}{sz:Nat}{ys:List (List PV)}{news:List Value}(h0:0<sz)(hyl:∀y∈ys,y.length=sz)(hnl:news.length=ys.length*sz)(hn1:∀u∈news,u.oneCell'=true)
  (hnr:∀(j i:Nat) (x:List PV) (p:PV),ys[j]? = some x->x[i]? = some p->∃u,news[j*sz+i]? = some u/\RepF C.S u p):RepL C T U V news ys.flatten:=by
 refine⟨by rw[hnl,flatP_len hyl],fun k v p hv hp=>⟨hn1 v (List.mem_of_getElem? hv),?_⟩⟩
 rw[flatP_get h0 hyl]at hp
 cases hx:ys[k/sz]? with
 |none=>rw[hx]at hp; cases hp
 |some x=>
  rw[hx]at hp
  obtain⟨u,g1,g2⟩:=hnr _ _ x p hx hp
  have:k/sz*sz+k%sz=k:=by rw[Nat.mul_comm]; exact Nat.div_add_mod k sz
  rw[this,hv]at g1
  obtain rfl:=Option.some.inj g1
  exact .frz g2
theorem sem_append {d:Tmp}{ty t e:TypeId}{pos:String}{af:Array Edge}{x y:Operand}{sz by_:Nat}{z:Value}(hu:P.underlying t=some (.slice e))(hs:sizeOf? P e=some sz)(hb:bytesOf? P e=some by_)(hz:zeroOf? P e=some z)(hzs:z.cells.size=sz)(h0:0<sz)(hz1:∀u∈z.cells.toList,u.oneCell'=true)
  {id n cap:Nat} {cs:List PV} {sv:PV} {ys0 ys:List (List PV)} {K:PS->Prop} (hx:st.ev x=some (.ms id 0 n cap)) (hbx:lkp st.heap id=some (.box e cs)) (hcl:cs.length=cap*sz) (hnc:n<=cap) (hcm:cap<=maxLen) (hsp:PV.ltL 0 0 (cs.drop (n*sz))=true)
  (hy:st.ev y=some sv) (hys0:srcXs st sz sv=some ys0) (hys:fzLL ys0=some ys) (hyl:∀y∈ys,y.length=sz) (hne:ys≠[]) (hb1:(n+ys.length)*by_<=140737488355328) (hb2:n+ys.length<=9223372036854775807)
  (hk:∀cap' rest',n+ys.length<=cap'->cap'<=maxLen->rest'.length=(cap'-(n+ys.length))*sz->PV.ltL 0 0 rest'=true->K ⟨(d,.ms st.nx 0 (n+ys.length) cap')::st.env,(st.nx,.box e (cs.take (n*sz)++ys.flatten++rest'))::dropH [id] st.heap,st.toks,st.nx+1,st.nt⟩) :
  SemStep P ⟨some d,.call ⟨.builtin .append, #[x,y], #[t,t]⟩,ty,pos,af,none⟩ st K:=by
 refine⟨rfl,fun own S0 w0 N a w X hf ⟨hd,hsz,C,R,E⟩=>?_⟩
 obtain⟨i,hi,hi1,hi2,hi3⟩:=info_of hs hb hz
 obtain⟨ev,hU,_⟩:=rep_ms (ev_rep E hx)
 obtain⟨ad,cy,ey,news,hnl,hncell,hn1,hnr⟩:=src_sound E R hy hys0 hys hyl h0 hne
 have hpos:0<ys.length:=List.length_pos_iff.2 hne
 obtain⟨vs,hvs,hvsz,hvr⟩:=R.box id e cs hbx
 have hrun:∀v w',(Builtin.append_ #[t,t] ty #[a.eval x,a.eval y]).run P w = .ok v w'->(execOp a.eval ⟨some d,.call ⟨.builtin .append, #[x,y], #[t,t]⟩,ty,pos,af,none⟩).run P w = .ok (.value v) w':=by
  intro v w' hv
  simp[execOp,resolve,invoke,builtin,hv]
 have hnew:¬(· < st.nx) st.nx:=Nat.lt_irrefl _
 have hold:RepL C st.toks (· < st.nx) (· < st.nt) (vs.toList.take (n*sz)) (cs.take (n*sz)):=RepL.take ⟨by simpa using hvsz,fun i v p hv hp=>hvr i v p (by simpa using hv) hp⟩ _
 have hfr:=flatP_len hyl
 have hle:n*sz+ys.length*sz<=(n+ys.length)*sz:=by rw[Nat.add_mul]; exact Nat.le_refl _
 have hncs:n*sz<=cs.length:=by rw[hcl]; exact Nat.mul_le_mul_right _ hnc
 unfold Oper.wp
 by_cases hroom:n+ys.length<=cap
 ·have hfit:n*i.size+news.length<=vs.size:=by rw[hnl,hvsz,hcl,hi1,<-Nat.add_mul]; exact Nat.mul_le_mul_right _ hroom
  have hrun1:=run_append_room (P:=P) w t ty e i hu hi (C.ρ id) n cap vs hvs ad _ cy news (by rw[hi1]; exact hnl) hncell hn1 hroom hfit
  rw[hi1]at hrun1
  rw[hrun _ _ (by rw[ev,ey]; exact hrun1),Oper.upon_value]
  have hL:RepL C st.toks (· < st.nx) (· < st.nt) ((vs.toList.take (n*sz)++news++vs.toList.drop (n*sz+news.length)).toArray).toList (cs.take (n*sz)++ys.flatten++cs.drop ((n+ys.length)*sz)):=by
   rw[List.toList_toArray,hnl,<-Nat.add_mul]
   exact(hold.app (news_rep h0 hyl hnl hn1 hnr)).app (RepL.drop ⟨by simpa using hvsz,fun i v p hv hp=>hvr i v p (by simpa using hv) hp⟩ _)
  have R1:=R.store hbx hL
  have R2:=R1.moveObj (id:=id) (nid:=st.nx) (ob:= .box e (cs.take (n*sz)++ys.flatten++cs.drop ((n+ys.length)*sz))) (by rw[lkp_upd,if_pos rfl]) hnew (U':=(· < st.nx+1)) (fun j hj=>Nat.lt_succ_of_lt hj) (Nat.lt_succ_self _) (st.nx+1)
  have R3:Rel own S0 w0 (C.at st.nx (C.ρ id)) (· < st.nx+1) (· < st.nt) ⟨st.env,(st.nx,.box e (cs.take (n*sz)++ys.flatten++cs.drop ((n+ys.length)*sz)))::dropH [id] st.heap,st.toks,st.nx+1,st.nt⟩ (w.setRow (C.ρ id) (vs.toList.take (n*sz)++news++vs.toList.drop (n*sz+news.length)).toArray):=by
   have hq:∀j,lkp ((st.nx,PObj.box e (cs.take (n*sz)++ys.flatten++cs.drop ((n+ys.length)*sz)))::dropH [id] st.heap) j=lkp ((st.nx,PObj.box e (cs.take (n*sz)++ys.flatten++cs.drop ((n+ys.length)*sz)))::dropH [id] (upd st.heap id (.box e (cs.take (n*sz)++ys.flatten++cs.drop ((n+ys.length)*sz))))) j:=fun j=>by
    simp only[lkp_cons,dropH_lkp,lkp_upd]
    split
    ·rfl
    ·by_cases hj:j∈[id]
     ·rw[if_pos hj,if_pos hj]
     ·rw[if_neg hj,if_neg hj,if_neg (by simpa using hj)]
   exact⟨R2.frame,R2.stable,fun j T cs h=>R2.box j T cs (by rw[<-h]; exact(hq j).symm),fun j s pos h=>R2.iter j s pos (by rw[<-h]; exact(hq j).symm),fun j o h=>R2.hown j o (by rw[<-h]; exact(hq j).symm),fun i j oi oj h1 h2=>R2.hinj i j oi oj (by rw[<-h1]; exact(hq i).symm) (by rw[<-h2]; exact(hq j).symm),R2.tok,fun i oi k t h1 h2=>R2.tbox i oi k t (by rw[<-h1]; exact(hq i).symm) h2,R2.tinj,R2.snew,R2.sold,R2.base,R2.glob⟩
  have X':=R.ext_at (C.ρ id) st.nx hnew (U':=(· < st.nx+1)) (fun j hj=>Nat.lt_succ_of_lt hj)
  refine⟨_,hk cap (cs.drop ((n+ys.length)*sz)) hroom hcm (by rw[List.length_drop,hcl,<-Nat.sub_mul]) (by
   have:cs.drop ((n+ys.length)*sz)=(cs.drop (n*sz)).drop (ys.length*sz):=by rw[List.drop_drop,Nat.add_mul]
   rw[this]; exact ltL_drop' hsp),?_⟩
  refine StN.of_put (d:=some d) (st':=⟨st.env,(st.nx,.box e (cs.take (n*sz)++ys.flatten++cs.drop ((n+ys.length)*sz)))::dropH [id] st.heap,st.toks,st.nx+1,st.nt⟩) hd hsz hf R3 (fun tt q hq=>?_) ?_
  ·obtain⟨v,h1,h2⟩:=E tt q hq
   exact⟨v,h1,h2.ext X'⟩
  ·have this:(C.at st.nx (C.ρ id)).ρ st.nx=C.ρ id:=by simp[Cx.at]
   have h:=RepV.ms (C:=C.at st.nx (C.ρ id)) (T:=st.toks) (U:=(· < st.nx+1)) (V:=(· < st.nt)) (id:=st.nx) (lo:=0) (Nat.lt_succ_self _) hroom
   rw[this]at h
   exact h
 ·have holdc:∀j v,(vs.toList.take (n*sz))[j]? = some v->w.cell? ((⟨C.ρ id,0,none⟩:Addr).add j)=some v:=by
   intro j v hj
   rw[Addr.add_lit,Nat.zero_add,cell_of_row w _ _ vs e (0,0) hvs]
   rw[List.getElem?_take]at hj
   split at hj
   ·simpa using hj
   ·cases hj
  have hol:(vs.toList.take (n*sz)).length=n*sz:=by rw[List.length_take]; simp only[Array.length_toList]; omega
  have hrun1:=run_append_grow (P:=P) w t ty e i z hu hi hi3 ⟨C.ρ id,0,none⟩ n cap (vs.toList.take (n*sz)) (by rw[hi1]; exact hol) holdc ad _ cy news (by rw[hi1]; exact hnl) hncell (by omega) (by omega) (growslice_fits (by omega) (by rw[hi2]; exact hb1))
  have hcapge:n+ys.length<=grownCap w (n+ys.length) cap e:=grownCap_ge w _ cap e
  have hcapm:grownCap w (n+ys.length) cap e<=maxLen:=grownCap_le_maxLen w _ cap e (by simpa [maxLen]using hb2)
  rw[hrun _ _ (by rw[ev,ey]; exact hrun1),Oper.upon_value]
  generalize grownCap w (n+ys.length) cap e=cap' at *
  have hL:RepL C st.toks (· < st.nx) (· < st.nt) ((vs.toList.take (n*sz)).toArray++news.toArray++Builtin.zeroCells z.cells (cap'-(n+ys.length))).toList (cs.take (n*sz)++ys.flatten++(Builtin.zeroCells z.cells (cap'-(n+ys.length))).toList.map .val):=by
   simp only[Array.toList_append,List.toList_toArray]
   exact(hold.app (news_rep h0 hyl hnl hn1 hnr)).app (zeros_rep hzs h0 hz1)
  have R1:=(R.drew.newObj (w:=w.drew) st.nx hnew (U':=(· < st.nx+1)) (fun j hj=>Nat.lt_succ_of_lt hj) (Nat.lt_succ_self _) (.box e (cs.take (n*sz)++ys.flatten++(Builtin.zeroCells z.cells (cap'-(n+ys.length))).toList.map .val)) _ (fun T ds h=>by
   obtain⟨rfl,rfl⟩:=PObj.box.inj h
   exact⟨_,rfl,hL⟩) (fun s pos h=>by cases h) (st.nx+1) st.nt).drop1 [id]
  have hne:¬inL st.nx [id]=true:=by rw[inL_iff]; simp only[List.mem_singleton]; have:id<st.nx:=hU; omega
  simp only[dropH,if_neg hne]at R1
  have X':=R.drew.ext_at w.drew.heap.size st.nx hnew (U':=(· < st.nx+1)) (fun j hj=>Nat.lt_succ_of_lt hj)
  refine⟨_,hk cap' ((Builtin.zeroCells z.cells (cap'-(n+ys.length))).toList.map .val) hcapge hcapm (by simp[Builtin.zeroCells,hzs]) (ltL_vals 0 0 _),?_⟩
  refine StN.of_put (d:=some d) (st':=⟨st.env,(st.nx,.box e (cs.take (n*sz)++ys.flatten++(Builtin.zeroCells z.cells (cap'-(n+ys.length))).toList.map .val))::dropH [id] st.heap,st.toks,st.nx+1,st.nt⟩) hd hsz hf R1 (fun tt q hq=>?_) ?_
  ·obtain⟨v,h1,h2⟩:=E tt q hq
   exact⟨v,h1,h2.ext X'⟩
  ·have this:(C.at st.nx w.drew.heap.size).ρ st.nx=w.heap.size:=by simp[Cx.at]
   have h:=RepV.ms (C:=C.at st.nx w.drew.heap.size) (T:=st.toks) (U:=(· < st.nx+1)) (V:=(· < st.nt)) (id:=st.nx) (lo:=0) (Nat.lt_succ_self _) hcapge
   rw[this]at h
   exact h
theorem sem_append_nil {d:Tmp}{ty t e:TypeId}{pos:String}{af:Array Edge}{x y:Operand}{sz by_:Nat}{z:Value}(hu:P.underlying t=some (.slice e))(hs:sizeOf? P e=some sz)(hb:bytesOf? P e=some by_)(hz:zeroOf? P e=some z)(hzs:z.cells.size=sz)(h0:0<sz)(hz1:∀u∈z.cells.toList,u.oneCell'=true)
  {sv:PV} {ys0 ys:List (List PV)} {K:PS->Prop} (hx:st.ev x=some (.val (.slice none 0 0)))
  (hy:st.ev y=some sv) (hys0:srcXs st sz sv=some ys0) (hys:fzLL ys0=some ys) (hyl:∀y∈ys,y.length=sz) (hne:ys≠[]) (hb1:ys.length*by_<=140737488355328) (hb2:ys.length<=9223372036854775807)
  (hk:∀cap' rest',ys.length<=cap'->cap'<=maxLen->rest'.length=(cap'-ys.length)*sz->PV.ltL 0 0 rest'=true->K ⟨(d,.ms st.nx 0 ys.length cap')::st.env,(st.nx,.box e (ys.flatten++rest'))::st.heap,st.toks,st.nx+1,st.nt⟩) :
  SemStep P ⟨some d,.call ⟨.builtin .append, #[x,y], #[t,t]⟩,ty,pos,af,none⟩ st K:=by
 refine⟨rfl,fun own S0 w0 N a w X hf ⟨hd,hsz,C,R,E⟩=>?_⟩
 obtain⟨i,hi,hi1,hi2,hi3⟩:=info_of hs hb hz
 have ev:a.eval x = .slice none 0 0:=(rep_val (ev_rep E hx)).1
 obtain⟨ad,cy,ey,news,hnl,hncell,hn1,hnr⟩:=src_sound E R hy hys0 hys hyl h0 hne
 have hpos:0<ys.length:=List.length_pos_iff.2 hne
 have hrun:∀v w',(Builtin.append_ #[t,t] ty #[a.eval x,a.eval y]).run P w = .ok v w'->(execOp a.eval ⟨some d,.call ⟨.builtin .append, #[x,y], #[t,t]⟩,ty,pos,af,none⟩).run P w = .ok (.value v) w':=by
  intro v w' hv
  simp[execOp,resolve,invoke,builtin,hv]
 have hnew:¬(· < st.nx) st.nx:=Nat.lt_irrefl _
 unfold Oper.wp
 have hrun1:=run_append_nil (P:=P) w t ty e i z hu hi hi3 ad _ cy news (by rw[hi1]; exact hnl) hncell hpos (by omega) (by rw[hi2]; omega)
 have hcapge:ys.length<=grownCap w ys.length 0 e:=grownCap_ge w _ 0 e
 have hcapm:grownCap w ys.length 0 e<=maxLen:=grownCap_le_maxLen w _ 0 e (by simpa [maxLen]using hb2)
 rw[hrun _ _ (by rw[ev,ey]; exact hrun1),Oper.upon_value]
 generalize grownCap w ys.length 0 e=cap' at *
 have hL:RepL C st.toks (· < st.nx) (· < st.nt) (news.toArray++Builtin.zeroCells z.cells (cap'-ys.length)).toList (ys.flatten++(Builtin.zeroCells z.cells (cap'-ys.length)).toList.map .val):=by
  simp only[Array.toList_append,List.toList_toArray]
  exact(news_rep h0 hyl hnl hn1 hnr).app (zeros_rep hzs h0 hz1)
 have R1:=R.drew.newObj (w:=w.drew) st.nx hnew (U':=(· < st.nx+1)) (fun j hj=>Nat.lt_succ_of_lt hj) (Nat.lt_succ_self _) (.box e (ys.flatten++(Builtin.zeroCells z.cells (cap'-ys.length)).toList.map .val)) _ (fun T ds h=>by
  obtain⟨rfl,rfl⟩:=PObj.box.inj h
  exact⟨_,rfl,hL⟩) (fun s pos h=>by cases h) (st.nx+1) st.nt
 have X':=R.drew.ext_at w.drew.heap.size st.nx hnew (U':=(· < st.nx+1)) (fun j hj=>Nat.lt_succ_of_lt hj)
 refine⟨_,hk cap' ((Builtin.zeroCells z.cells (cap'-ys.length)).toList.map .val) hcapge hcapm (by simp[Builtin.zeroCells,hzs]) (ltL_vals 0 0 _),?_⟩
 refine StN.of_put (d:=some d) (st':=⟨st.env,(st.nx,.box e (ys.flatten++(Builtin.zeroCells z.cells (cap'-ys.length)).toList.map .val))::st.heap,st.toks,st.nx+1,st.nt⟩) hd hsz hf R1 (fun tt q hq=>?_) ?_
 ·obtain⟨v,h1,h2⟩:=E tt q hq
  exact⟨v,h1,h2.ext X'⟩
 ·have this:(C.at st.nx w.drew.heap.size).ρ st.nx=w.heap.size:=by simp[Cx.at]
  have h:=RepV.ms (C:=C.at st.nx w.drew.heap.size) (T:=st.toks) (U:=(· < st.nx+1)) (V:=(· < st.nt)) (id:=st.nx) (lo:=0) (Nat.lt_succ_self _) hcapge
  rw[this]at h
  exact h
end
end Go.Pw

end
section
namespace Go.Proofs.YtcgmpcbkndpmbaaGreatDoor
open Go Go.Pw
set_option linter.unusedVariables false
variable {dr:Bool} {st:PS} {id tk:Nat} {d:Option Tmp} {ty:TypeId} {pos:String} {af:Array Edge} {g:Option (Nat×Bool)} {x y:Operand}
set_option maxRecDepth 4000
theorem z1:zeroOf? Tryz.prog 1=some (.nilFunc):=by kernel_rfl
theorem ag2:aggT Tryz.prog 2=some false:=by kernel_rfl
theorem sz2:sizeOf? Tryz.prog 2=some 1:=by kernel_rfl
theorem z2:zeroOf? Tryz.prog 2=some (.int .i64 0):=by kernel_rfl
theorem by2:bytesOf? Tryz.prog 2=some 8:=by kernel_rfl
theorem ag3:aggT Tryz.prog 3=some false:=by kernel_rfl
theorem sz3:sizeOf? Tryz.prog 3=some 1:=by kernel_rfl
theorem z3:zeroOf? Tryz.prog 3=some (.int .i64 0):=by kernel_rfl
theorem by3:bytesOf? Tryz.prog 3=some 8:=by kernel_rfl
theorem ag4:aggT Tryz.prog 4=some false:=by kernel_rfl
theorem sz4:sizeOf? Tryz.prog 4=some 1:=by kernel_rfl
theorem z4:zeroOf? Tryz.prog 4=some (.bool false):=by kernel_rfl
theorem by4:bytesOf? Tryz.prog 4=some 1:=by kernel_rfl
theorem ag5:aggT Tryz.prog 5=some false:=by kernel_rfl
theorem sz5:sizeOf? Tryz.prog 5=some 1:=by kernel_rfl
theorem z5:zeroOf? Tryz.prog 5=some (.int .u8 0):=by kernel_rfl
theorem by5:bytesOf? Tryz.prog 5=some 1:=by kernel_rfl
theorem ag9:aggT Tryz.prog 9=some false:=by kernel_rfl
theorem sz9:sizeOf? Tryz.prog 9=some 1:=by kernel_rfl
theorem z9:zeroOf? Tryz.prog 9=some (.string ByteArray.empty):=by kernel_rfl
theorem by9:bytesOf? Tryz.prog 9=some 16:=by kernel_rfl
theorem ag20:aggT Tryz.prog 20=some false:=by kernel_rfl
theorem sz20:sizeOf? Tryz.prog 20=some 1:=by kernel_rfl
theorem z20:zeroOf? Tryz.prog 20=some (.nilIface):=by kernel_rfl
theorem ag21:aggT Tryz.prog 21=some false:=by kernel_rfl
theorem sz21:sizeOf? Tryz.prog 21=some 1:=by kernel_rfl
theorem z21:zeroOf? Tryz.prog 21=some (.int .i32 0):=by kernel_rfl
theorem by21:bytesOf? Tryz.prog 21=some 4:=by kernel_rfl
theorem ag22:aggT Tryz.prog 22=some false:=by kernel_rfl
theorem sz22:sizeOf? Tryz.prog 22=some 1:=by kernel_rfl
theorem z22:zeroOf? Tryz.prog 22=some (.slice none 0 0):=by kernel_rfl
theorem by22:bytesOf? Tryz.prog 22=some 24:=by kernel_rfl
theorem ag23:aggT Tryz.prog 23=some false:=by kernel_rfl
theorem sz23:sizeOf? Tryz.prog 23=some 1:=by kernel_rfl
theorem z23:zeroOf? Tryz.prog 23=some (.slice none 0 0):=by kernel_rfl
theorem by23:bytesOf? Tryz.prog 23=some 24:=by kernel_rfl
theorem ag25:aggT Tryz.prog 25=some false:=by kernel_rfl
theorem sz25:sizeOf? Tryz.prog 25=some 1:=by kernel_rfl
theorem z25:zeroOf? Tryz.prog 25=some (.slice none 0 0):=by kernel_rfl
theorem by25:bytesOf? Tryz.prog 25=some 24:=by kernel_rfl
theorem ag26:aggT Tryz.prog 26=some false:=by kernel_rfl
theorem sz26:sizeOf? Tryz.prog 26=some 1:=by kernel_rfl
theorem z26:zeroOf? Tryz.prog 26=some (.slice none 0 0):=by kernel_rfl
theorem by26:bytesOf? Tryz.prog 26=some 24:=by kernel_rfl
theorem ag28:aggT Tryz.prog 28=some true:=by kernel_rfl
theorem sz28:sizeOf? Tryz.prog 28=some 6:=by kernel_rfl
theorem z28:zeroOf? Tryz.prog 28=some (.agg #[.int .i64 0,.bool false,.int .i64 0,.string ByteArray.empty,.slice none 0 0,.slice none 0 0]):=by kernel_rfl
theorem by28:bytesOf? Tryz.prog 28=some 88:=by kernel_rfl
theorem ag31:aggT Tryz.prog 31=some false:=by kernel_rfl
theorem sz31:sizeOf? Tryz.prog 31=some 1:=by kernel_rfl
theorem z31:zeroOf? Tryz.prog 31=some (.slice none 0 0):=by kernel_rfl
theorem by31:bytesOf? Tryz.prog 31=some 24:=by kernel_rfl
theorem ag33:aggT Tryz.prog 33=some true:=by kernel_rfl
theorem sz33:sizeOf? Tryz.prog 33=some 6:=by kernel_rfl
theorem z33:zeroOf? Tryz.prog 33=some (.agg #[.int .i64 0,.bool false,.int .i64 0,.string ByteArray.empty,.slice none 0 0,.slice none 0 0]):=by kernel_rfl
theorem by33:bytesOf? Tryz.prog 33=some 88:=by kernel_rfl
theorem ag34:aggT Tryz.prog 34=some false:=by kernel_rfl
theorem sz34:sizeOf? Tryz.prog 34=some 1:=by kernel_rfl
theorem z34:zeroOf? Tryz.prog 34=some (.int .i64 0):=by kernel_rfl
theorem by34:bytesOf? Tryz.prog 34=some 8:=by kernel_rfl
theorem z37:zeroOf? Tryz.prog 37=some (.nilFunc):=by kernel_rfl
theorem ag42:aggT Tryz.prog 42=some false:=by kernel_rfl
theorem sz42:sizeOf? Tryz.prog 42=some 1:=by kernel_rfl
theorem z42:zeroOf? Tryz.prog 42=some (.nilFunc):=by kernel_rfl
theorem ag46:aggT Tryz.prog 46=some true:=by kernel_rfl
theorem sz46:sizeOf? Tryz.prog 46=some 5:=by kernel_rfl
theorem z46:zeroOf? Tryz.prog 46=some (.agg #[.int .i64 0,.string ByteArray.empty,.int .i64 0,.int .i64 0,.int .i64 0]):=by kernel_rfl
theorem by46:bytesOf? Tryz.prog 46=some 48:=by kernel_rfl
theorem z51:zeroOf? Tryz.prog 51=some (.nilFunc):=by kernel_rfl
theorem z53:zeroOf? Tryz.prog 53=some (.agg #[.int .u8 0,.int .i64 0,.string ByteArray.empty,.slice none 0 0,.slice none 0 0]):=by kernel_rfl
theorem ag54:aggT Tryz.prog 54=some true:=by kernel_rfl
theorem sz54:sizeOf? Tryz.prog 54=some 5:=by kernel_rfl
theorem z54:zeroOf? Tryz.prog 54=some (.agg #[.int .u8 0,.int .i64 0,.string ByteArray.empty,.slice none 0 0,.slice none 0 0]):=by kernel_rfl
theorem by54:bytesOf? Tryz.prog 54=some 80:=by kernel_rfl
theorem ag60:aggT Tryz.prog 60=some false:=by kernel_rfl
theorem sz60:sizeOf? Tryz.prog 60=some 1:=by kernel_rfl
theorem z60:zeroOf? Tryz.prog 60=some (.slice none 0 0):=by kernel_rfl
theorem by60:bytesOf? Tryz.prog 60=some 24:=by kernel_rfl
theorem ag62:aggT Tryz.prog 62=some true:=by kernel_rfl
theorem sz62:sizeOf? Tryz.prog 62=some 2:=by kernel_rfl
theorem z62:zeroOf? Tryz.prog 62=some (.agg #[.bool false,.slice none 0 0]):=by kernel_rfl
theorem by62:bytesOf? Tryz.prog 62=some 32:=by kernel_rfl
theorem ag64:aggT Tryz.prog 64=some false:=by kernel_rfl
theorem sz64:sizeOf? Tryz.prog 64=some 1:=by kernel_rfl
theorem z64:zeroOf? Tryz.prog 64=some (.pointer none):=by kernel_rfl
theorem by64:bytesOf? Tryz.prog 64=some 8:=by kernel_rfl
theorem ag65:aggT Tryz.prog 65=some false:=by kernel_rfl
theorem sz65:sizeOf? Tryz.prog 65=some 1:=by kernel_rfl
theorem z65:zeroOf? Tryz.prog 65=some (.pointer none):=by kernel_rfl
theorem by65:bytesOf? Tryz.prog 65=some 8:=by kernel_rfl
theorem ag67:aggT Tryz.prog 67=some true:=by kernel_rfl
theorem sz67:sizeOf? Tryz.prog 67=some 5:=by kernel_rfl
theorem z67:zeroOf? Tryz.prog 67=some (.agg #[.int .i64 0,.string ByteArray.empty,.int .i64 0,.int .i64 0,.int .i64 0]):=by kernel_rfl
theorem by67:bytesOf? Tryz.prog 67=some 48:=by kernel_rfl
theorem ag69:aggT Tryz.prog 69=some true:=by kernel_rfl
theorem sz69:sizeOf? Tryz.prog 69=some 9:=by kernel_rfl
theorem z69:zeroOf? Tryz.prog 69=some (.agg #[.pointer none,.int .i64 0,.string ByteArray.empty,.int .i64 0,.int .i64 0,.int .i64 0,.int .i64 0,.int .i64 0,.int .i64 0]):=by kernel_rfl
theorem by69:bytesOf? Tryz.prog 69=some 80:=by kernel_rfl
theorem z75:zeroOf? Tryz.prog 75=some (.nilFunc):=by kernel_rfl
theorem ag85:aggT Tryz.prog 85=some true:=by kernel_rfl
theorem sz85:sizeOf? Tryz.prog 85=some 3:=by kernel_rfl
theorem z85:zeroOf? Tryz.prog 85=some (.agg #[.string ByteArray.empty,.string ByteArray.empty,.string ByteArray.empty]):=by kernel_rfl
theorem by85:bytesOf? Tryz.prog 85=some 48:=by kernel_rfl
theorem ag92:aggT Tryz.prog 92=some true:=by kernel_rfl
theorem sz92:sizeOf? Tryz.prog 92=some 8:=by kernel_rfl
theorem z92:zeroOf? Tryz.prog 92=some (.agg #[.string ByteArray.empty,.string ByteArray.empty,.string ByteArray.empty,.string ByteArray.empty,.string ByteArray.empty,.string ByteArray.empty,.string ByteArray.empty,.string ByteArray.empty]):=by kernel_rfl
theorem by92:bytesOf? Tryz.prog 92=some 128:=by kernel_rfl
theorem ag94:aggT Tryz.prog 94=some true:=by kernel_rfl
theorem sz94:sizeOf? Tryz.prog 94=some 2:=by kernel_rfl
theorem z94:zeroOf? Tryz.prog 94=some (.agg #[.string ByteArray.empty,.int .i64 0]):=by kernel_rfl
theorem by94:bytesOf? Tryz.prog 94=some 24:=by kernel_rfl
theorem ag114:aggT Tryz.prog 114=some false:=by kernel_rfl
theorem sz114:sizeOf? Tryz.prog 114=some 1:=by kernel_rfl
theorem z114:zeroOf? Tryz.prog 114=some (.nilFunc):=by kernel_rfl
theorem ag116:aggT Tryz.prog 116=some false:=by kernel_rfl
theorem sz116:sizeOf? Tryz.prog 116=some 1:=by kernel_rfl
theorem z116:zeroOf? Tryz.prog 116=some (.pointer none):=by kernel_rfl
theorem by116:bytesOf? Tryz.prog 116=some 8:=by kernel_rfl
theorem ag117:aggT Tryz.prog 117=some false:=by kernel_rfl
theorem sz117:sizeOf? Tryz.prog 117=some 1:=by kernel_rfl
theorem z117:zeroOf? Tryz.prog 117=some (.nilFunc):=by kernel_rfl
theorem ag118:aggT Tryz.prog 118=some false:=by kernel_rfl
theorem sz118:sizeOf? Tryz.prog 118=some 1:=by kernel_rfl
theorem z118:zeroOf? Tryz.prog 118=some (.pointer none):=by kernel_rfl
theorem by118:bytesOf? Tryz.prog 118=some 8:=by kernel_rfl
theorem ag119:aggT Tryz.prog 119=some false:=by kernel_rfl
theorem sz119:sizeOf? Tryz.prog 119=some 1:=by kernel_rfl
theorem z119:zeroOf? Tryz.prog 119=some (.pointer none):=by kernel_rfl
theorem by119:bytesOf? Tryz.prog 119=some 8:=by kernel_rfl
theorem ag122:aggT Tryz.prog 122=some true:=by kernel_rfl
theorem sz122:sizeOf? Tryz.prog 122=some 5:=by kernel_rfl
theorem z122:zeroOf? Tryz.prog 122=some (.agg #[.int .i64 0,.int .i64 0,.int .i64 0,.int .i64 0,.int .i64 0]):=by kernel_rfl
theorem by122:bytesOf? Tryz.prog 122=some 40:=by kernel_rfl
theorem z127:zeroOf? Tryz.prog 127=some (.nilFunc):=by kernel_rfl
theorem ag128:aggT Tryz.prog 128=some false:=by kernel_rfl
theorem sz128:sizeOf? Tryz.prog 128=some 1:=by kernel_rfl
theorem z128:zeroOf? Tryz.prog 128=some (.nilFunc):=by kernel_rfl
theorem ag130:aggT Tryz.prog 130=some false:=by kernel_rfl
theorem sz130:sizeOf? Tryz.prog 130=some 1:=by kernel_rfl
theorem z130:zeroOf? Tryz.prog 130=some (.pointer none):=by kernel_rfl
theorem by130:bytesOf? Tryz.prog 130=some 8:=by kernel_rfl
theorem ag132:aggT Tryz.prog 132=some true:=by kernel_rfl
theorem sz132:sizeOf? Tryz.prog 132=some 2:=by kernel_rfl
theorem z132:zeroOf? Tryz.prog 132=some (.agg #[.pointer none,.slice none 0 0]):=by kernel_rfl
theorem by132:bytesOf? Tryz.prog 132=some 32:=by kernel_rfl
theorem ag136:aggT Tryz.prog 136=some false:=by kernel_rfl
theorem sz136:sizeOf? Tryz.prog 136=some 1:=by kernel_rfl
theorem z136:zeroOf? Tryz.prog 136=some (.nilIface):=by kernel_rfl
theorem by136:bytesOf? Tryz.prog 136=some 16:=by kernel_rfl
theorem z143:zeroOf? Tryz.prog 143=some (.nilFunc):=by kernel_rfl
theorem z145:zeroOf? Tryz.prog 145=some (.nilFunc):=by kernel_rfl
theorem ag154:aggT Tryz.prog 154=some false:=by kernel_rfl
theorem sz154:sizeOf? Tryz.prog 154=some 1:=by kernel_rfl
theorem z154:zeroOf? Tryz.prog 154=some (.pointer none):=by kernel_rfl
theorem by154:bytesOf? Tryz.prog 154=some 8:=by kernel_rfl
theorem ag158:aggT Tryz.prog 158=some false:=by kernel_rfl
theorem sz158:sizeOf? Tryz.prog 158=some 1:=by kernel_rfl
theorem z158:zeroOf? Tryz.prog 158=some (.int .u64 0):=by kernel_rfl
theorem by158:bytesOf? Tryz.prog 158=some 8:=by kernel_rfl
theorem ag167:aggT Tryz.prog 167=some false:=by kernel_rfl
theorem sz167:sizeOf? Tryz.prog 167=some 1:=by kernel_rfl
theorem z167:zeroOf? Tryz.prog 167=some (.int .i64 0):=by kernel_rfl
theorem by167:bytesOf? Tryz.prog 167=some 8:=by kernel_rfl
theorem ag168:aggT Tryz.prog 168=some false:=by kernel_rfl
theorem sz168:sizeOf? Tryz.prog 168=some 1:=by kernel_rfl
theorem z168:zeroOf? Tryz.prog 168=some (.int .u64 0):=by kernel_rfl
theorem by168:bytesOf? Tryz.prog 168=some 8:=by kernel_rfl
theorem ag171:aggT Tryz.prog 171=some false:=by kernel_rfl
theorem sz171:sizeOf? Tryz.prog 171=some 1:=by kernel_rfl
theorem z171:zeroOf? Tryz.prog 171=some (.pointer none):=by kernel_rfl
theorem by171:bytesOf? Tryz.prog 171=some 8:=by kernel_rfl
theorem z173:zeroOf? Tryz.prog 173=some (.nilFunc):=by kernel_rfl
theorem z175:zeroOf? Tryz.prog 175=some (.nilFunc):=by kernel_rfl
theorem ag178:aggT Tryz.prog 178=some true:=by kernel_rfl
theorem sz178:sizeOf? Tryz.prog 178=some 3:=by kernel_rfl
theorem z178:zeroOf? Tryz.prog 178=some (.agg #[.string ByteArray.empty,.string ByteArray.empty,.nilIface]):=by kernel_rfl
theorem by178:bytesOf? Tryz.prog 178=some 48:=by kernel_rfl
theorem ag180:aggT Tryz.prog 180=some false:=by kernel_rfl
theorem sz180:sizeOf? Tryz.prog 180=some 1:=by kernel_rfl
theorem z180:zeroOf? Tryz.prog 180=some (.pointer none):=by kernel_rfl
theorem by180:bytesOf? Tryz.prog 180=some 8:=by kernel_rfl
theorem ag182:aggT Tryz.prog 182=some true:=by kernel_rfl
theorem sz182:sizeOf? Tryz.prog 182=some 1:=by kernel_rfl
theorem z182:zeroOf? Tryz.prog 182=some (.agg #[.string ByteArray.empty]):=by kernel_rfl
theorem by182:bytesOf? Tryz.prog 182=some 16:=by kernel_rfl
theorem ag184:aggT Tryz.prog 184=some true:=by kernel_rfl
theorem sz184:sizeOf? Tryz.prog 184=some 24:=by kernel_rfl
theorem z184:zeroOf? Tryz.prog 184=some (.agg #[.int .u8 0,.int .u8 0,.int .u8 0,.int .u8 0,.int .u8 0,.int .u8 0,.int .u8 0,.int .u8 0,.int .u8 0,.int .u8 0,.int .u8 0,.int .u8 0,.int .u8 0,.int .u8 0,.int .u8 0,.int .u8 0,.int .u8 0,.int .u8 0,.int .u8 0,.int .u8 0,.int .u8 0,.int .u8 0,.int .u8 0,.int .u8 0]):=by kernel_rfl
theorem by184:bytesOf? Tryz.prog 184=some 24:=by kernel_rfl
theorem ag191:aggT Tryz.prog 191=some true:=by kernel_rfl
theorem sz191:sizeOf? Tryz.prog 191=some 20:=by kernel_rfl
theorem z191:zeroOf? Tryz.prog 191=some (.agg #[.int .u64 0,.int .u64 0,.int .u64 0,.int .u64 0,.int .u64 0,.int .u64 0,.int .u64 0,.int .u64 0,.int .u64 0,.int .u64 0,.int .u64 0,.int .u64 0,.int .u64 0,.int .u64 0,.int .u64 0,.int .u64 0,.int .u64 0,.int .u64 0,.int .u64 0,.int .u64 0]):=by kernel_rfl
theorem by191:bytesOf? Tryz.prog 191=some 160:=by kernel_rfl
theorem ag192:aggT Tryz.prog 192=some false:=by kernel_rfl
theorem sz192:sizeOf? Tryz.prog 192=some 1:=by kernel_rfl
theorem z192:zeroOf? Tryz.prog 192=some (.int .u32 0):=by kernel_rfl
theorem by192:bytesOf? Tryz.prog 192=some 4:=by kernel_rfl
theorem ag196:aggT Tryz.prog 196=some true:=by kernel_rfl
theorem sz196:sizeOf? Tryz.prog 196=some 32:=by kernel_rfl
theorem z196:zeroOf? Tryz.prog 196=some (.agg #[.int .u8 0,.int .u8 0,.int .u8 0,.int .u8 0,.int .u8 0,.int .u8 0,.int .u8 0,.int .u8 0,.int .u8 0,.int .u8 0,.int .u8 0,.int .u8 0,.int .u8 0,.int .u8 0,.int .u8 0,.int .u8 0,.int .u8 0,.int .u8 0,.int .u8 0,.int .u8 0,.int .u8 0,.int .u8 0,.int .u8 0,.int .u8 0,.int .u8 0,.int .u8 0,.int .u8 0,.int .u8 0,.int .u8 0,.int .u8 0,.int .u8 0,.int .u8 0]):=by kernel_rfl
theorem by196:bytesOf? Tryz.prog 196=some 32:=by kernel_rfl
theorem ag197:aggT Tryz.prog 197=some true:=by kernel_rfl
theorem sz197:sizeOf? Tryz.prog 197=some 64:=by kernel_rfl
theorem z197:zeroOf? Tryz.prog 197=some (.agg #[.int .u8 0,.int .u8 0,.int .u8 0,.int .u8 0,.int .u8 0,.int .u8 0,.int .u8 0,.int .u8 0,.int .u8 0,.int .u8 0,.int .u8 0,.int .u8 0,.int .u8 0,.int .u8 0,.int .u8 0,.int .u8 0,.int .u8 0,.int .u8 0,.int .u8 0,.int .u8 0,.int .u8 0,.int .u8 0,.int .u8 0,.int .u8 0,.int .u8 0,.int .u8 0,.int .u8 0,.int .u8 0,.int .u8 0,.int .u8 0,.int .u8 0,.int .u8 0,.int .u8 0,.int .u8 0,.int .u8 0,.int .u8 0,.int .u8 0,.int .u8 0,.int .u8 0,.int .u8 0,.int .u8 0,.int .u8 0,.int .u8 0,.int .u8 0,.int .u8 0,.int .u8 0,.int .u8 0,.int .u8 0,.int .u8 0,.int .u8 0,.int .u8 0,.int .u8 0,.int .u8 0,.int .u8 0,.int .u8 0,.int .u8 0,.int .u8 0,.int .u8 0,.int .u8 0,.int .u8 0,.int .u8 0,.int .u8 0,.int .u8 0,.int .u8 0]):=by kernel_rfl
theorem by197:bytesOf? Tryz.prog 197=some 64:=by kernel_rfl
theorem rdo2 {cs:List PV}{off:Nat}:readCells Tryz.prog 2 cs off=cs[off]? :=rd_one ag2
theorem rdo3 {cs:List PV}{off:Nat}:readCells Tryz.prog 3 cs off=cs[off]? :=rd_one ag3
theorem rdo4 {cs:List PV}{off:Nat}:readCells Tryz.prog 4 cs off=cs[off]? :=rd_one ag4
theorem rdo5 {cs:List PV}{off:Nat}:readCells Tryz.prog 5 cs off=cs[off]? :=rd_one ag5
theorem rdo9 {cs:List PV}{off:Nat}:readCells Tryz.prog 9 cs off=cs[off]? :=rd_one ag9
theorem mki9 {K:PS->Prop}:stepN dr Tryz.prog ⟨d,.makeInterface 9 x,ty,pos,af,g⟩ st id tk K=bindO (st.ev x) fun p=>K (st.put d (.iface 9 p)):=s_makeIface Tryz.underlying9 rfl
theorem rng9 {K:PS->Prop}:stepN dr Tryz.prog ⟨d,.range 9 x,ty,pos,af,g⟩ st id tk K=bindO (st.ev x) (rngP id d st K):=s_range Tryz.underlying9
theorem lns9 {K:PV->Prop}:lenK Tryz.prog st 9 x K=bindO (st.ev x) (lenS K):=len_string Tryz.underlying9
theorem ixs9 {K:PV->Prop}:indexK Tryz.prog st 9 x y K=bindO (st.ev x) fun p=>bindO (st.ev y) fun q=>intK q fun i=>ixS i K p:=ix_string Tryz.underlying9
theorem sls9 {lo hi:Option Operand}{K:PV->Prop}:sliceK Tryz.prog st 9 x lo hi K=bindO (st.ev x) (slcS st lo hi K):=slc_string Tryz.underlying9
theorem rdo20 {cs:List PV}{off:Nat}:readCells Tryz.prog 20 cs off=cs[off]? :=rd_one ag20
theorem ifx20:(∃ms,Tryz.prog.underlying 20=some (.interface ms))=True:=eq_true ⟨_,Tryz.underlying20⟩
theorem rdo21 {cs:List PV}{off:Nat}:readCells Tryz.prog 21 cs off=cs[off]? :=rd_one ag21
theorem rdo22 {cs:List PV}{off:Nat}:readCells Tryz.prog 22 cs off=cs[off]? :=rd_one ag22
theorem lns22 {K:PV->Prop}:lenK Tryz.prog st 22 x K=bindO (st.ev x) (lenP K):=len_slice Tryz.underlying22
theorem ixs22 {K:PV->Prop}:indexAddrK Tryz.prog st 22 x y K=bindO (st.ev x) fun p=>bindO (st.ev y) fun q=>intK q fun i=>ixP 5 i K p:=ix_slice Tryz.underlying22 sz54
theorem sls22 {lo hi:Option Operand}{K:PV->Prop}:sliceK Tryz.prog st 22 x lo hi K=bindO (st.ev x) (slcP 5 st lo hi K):=slc_slice Tryz.underlying22 sz54
theorem app22 {tk:Nat}{K:Delta->Prop}:appendK Tryz.prog st tk ⟨.builtin .append, #[x,y], #[22,22]⟩ K=bindO (st.ev x) fun d=>bindO (st.ev y) fun s=>bindO (srcXs st 5 s) fun ys0=>bindO (fzLL ys0) fun ys=>(∀y∈ys,y.length=5)/\appT 54 5 80 st tk K d ys:=
 append_t Tryz.underlying22 sz54 by54 z54 rfl (by decide)
theorem bs22 {id tk n:Nat}{K:PS->Prop}{l:List (Nat×Operand)} :
  stepN dr Tryz.prog ⟨d,.buildSlice 22 n l.toArray,ty,pos,af,g⟩ st id tk K=bindO (evParts st l) fun ps=>bindO (valsOf ps 0) fun xs=>(∀x∈xs,x.length=5)/\xs.length=n/\n*5<=16777216/\K (PS.put { st with toks:=upd st.toks tk ⟨54,5,n⟩ } d (.row tk xs)):=
 s_buildSlice Tryz.underlying22 sz54 z54 (by decide) rfl
theorem mks22 {K:PS->Prop}{l c:Operand}:stepN dr Tryz.prog ⟨d,.makeSlice 22 l c,ty,pos,af,g⟩ st id tk K=bindO (st.ev l) fun p=>bindO (st.ev c) fun q=>intK p fun n=>intK q fun m=>n=m/\0<=n/\n<=9223372036854775807/\80*n<=281474976710656 /\
  K (PS.put { st with heap:=(id,.box 54 ((List.range (n.toNat*5)).map fun i=>[.val (.int .u8 0),.val (.int .i64 0),.val (.string ByteArray.empty),.val (.slice none 0 0),.val (.slice none 0 0)].getD (i%5) (.val .nilIface)))::st.heap } d (.ms id 0 n.toNat n.toNat)):=
 s_makeSlice Tryz.underlying22 sz54 by54 z54 rfl rfl (by decide) rfl
theorem rdo23 {cs:List PV}{off:Nat}:readCells Tryz.prog 23 cs off=cs[off]? :=rd_one ag23
theorem lns23 {K:PV->Prop}:lenK Tryz.prog st 23 x K=bindO (st.ev x) (lenP K):=len_slice Tryz.underlying23
theorem ixs23 {K:PV->Prop}:indexAddrK Tryz.prog st 23 x y K=bindO (st.ev x) fun p=>bindO (st.ev y) fun q=>intK q fun i=>ixP 1 i K p:=ix_slice Tryz.underlying23 sz5
theorem sls23 {lo hi:Option Operand}{K:PV->Prop}:sliceK Tryz.prog st 23 x lo hi K=bindO (st.ev x) (slcP 1 st lo hi K):=slc_slice Tryz.underlying23 sz5
theorem app23 {tk:Nat}{K:Delta->Prop}:appendK Tryz.prog st tk ⟨.builtin .append, #[x,y], #[23,23]⟩ K=bindO (st.ev x) fun d=>bindO (st.ev y) fun s=>bindO (srcXs st 1 s) fun ys0=>bindO (fzLL ys0) fun ys=>(∀y∈ys,y.length=1)/\appT 5 1 1 st tk K d ys:=
 append_t Tryz.underlying23 sz5 by5 z5 rfl (by decide)
theorem bs23 {id tk n:Nat}{K:PS->Prop}{l:List (Nat×Operand)} :
  stepN dr Tryz.prog ⟨d,.buildSlice 23 n l.toArray,ty,pos,af,g⟩ st id tk K=bindO (evParts st l) fun ps=>bindO (valsOf ps 0) fun xs=>(∀x∈xs,x.length=1)/\xs.length=n/\n*1<=16777216/\K (PS.put { st with toks:=upd st.toks tk ⟨5,1,n⟩ } d (.row tk xs)):=
 s_buildSlice Tryz.underlying23 sz5 z5 (by decide) rfl
theorem isb23:isBytes Tryz.prog 23=True:=eq_true ⟨5,Tryz.underlying23,Tryz.underlying5⟩
theorem aps23 {tk:Nat}{K:Delta->Prop}:appendK Tryz.prog st tk ⟨.builtin .append, #[x,y], #[23,9]⟩ K=bindO (st.ev x) fun d=>bindO (st.ev y) fun s=>appS 5 1 st tk K d s:=
 append_s Tryz.underlying23 Tryz.underlying9 sz5 by5 z5
theorem cvr23 {k:Nat}{xs:List Int}{K:PV->Prop}:convK Tryz.prog 23 9 (rowC k xs) K=K (.val (.string (strOfNums xs))):=conv_rowC (by rw[Tryz.underlying23]; rfl) ⟨5,Tryz.underlying23,Tryz.underlying5⟩ Tryz.underlying9
theorem mks23 {K:PS->Prop}{l c:Operand}:stepN dr Tryz.prog ⟨d,.makeSlice 23 l c,ty,pos,af,g⟩ st id tk K=bindO (st.ev l) fun p=>bindO (st.ev c) fun q=>intK p fun n=>intK q fun m=>n=m/\0<=n/\n<=9223372036854775807/\1*n<=281474976710656 /\
  K (PS.put { st with heap:=(id,.box 5 ((List.range (n.toNat*1)).map fun i=>[.val (.int .u8 0)].getD (i%1) (.val .nilIface)))::st.heap } d (.ms id 0 n.toNat n.toNat)):=
 s_makeSlice Tryz.underlying23 sz5 by5 z5 rfl rfl (by decide) rfl
theorem rdo25 {cs:List PV}{off:Nat}:readCells Tryz.prog 25 cs off=cs[off]? :=rd_one ag25
theorem lns25 {K:PV->Prop}:lenK Tryz.prog st 25 x K=bindO (st.ev x) (lenP K):=len_slice Tryz.underlying25
theorem ixs25 {K:PV->Prop}:indexAddrK Tryz.prog st 25 x y K=bindO (st.ev x) fun p=>bindO (st.ev y) fun q=>intK q fun i=>ixP 6 i K p:=ix_slice Tryz.underlying25 sz28
theorem sls25 {lo hi:Option Operand}{K:PV->Prop}:sliceK Tryz.prog st 25 x lo hi K=bindO (st.ev x) (slcP 6 st lo hi K):=slc_slice Tryz.underlying25 sz28
theorem app25 {tk:Nat}{K:Delta->Prop}:appendK Tryz.prog st tk ⟨.builtin .append, #[x,y], #[25,25]⟩ K=bindO (st.ev x) fun d=>bindO (st.ev y) fun s=>bindO (srcXs st 6 s) fun ys0=>bindO (fzLL ys0) fun ys=>(∀y∈ys,y.length=6)/\appT 28 6 88 st tk K d ys:=
 append_t Tryz.underlying25 sz28 by28 z28 rfl (by decide)
theorem bs25 {id tk n:Nat}{K:PS->Prop}{l:List (Nat×Operand)} :
  stepN dr Tryz.prog ⟨d,.buildSlice 25 n l.toArray,ty,pos,af,g⟩ st id tk K=bindO (evParts st l) fun ps=>bindO (valsOf ps 0) fun xs=>(∀x∈xs,x.length=6)/\xs.length=n/\n*6<=16777216/\K (PS.put { st with toks:=upd st.toks tk ⟨28,6,n⟩ } d (.row tk xs)):=
 s_buildSlice Tryz.underlying25 sz28 z28 (by decide) rfl
theorem mks25 {K:PS->Prop}{l c:Operand}:stepN dr Tryz.prog ⟨d,.makeSlice 25 l c,ty,pos,af,g⟩ st id tk K=bindO (st.ev l) fun p=>bindO (st.ev c) fun q=>intK p fun n=>intK q fun m=>n=m/\0<=n/\n<=9223372036854775807/\88*n<=281474976710656 /\
  K (PS.put { st with heap:=(id,.box 28 ((List.range (n.toNat*6)).map fun i=>[.val (.int .i64 0),.val (.bool false),.val (.int .i64 0),.val (.string ByteArray.empty),.val (.slice none 0 0),.val (.slice none 0 0)].getD (i%6) (.val .nilIface)))::st.heap } d (.ms id 0 n.toNat n.toNat)):=
 s_makeSlice Tryz.underlying25 sz28 by28 z28 rfl rfl (by decide) rfl
theorem rdo26 {cs:List PV}{off:Nat}:readCells Tryz.prog 26 cs off=cs[off]? :=rd_one ag26
theorem alc26 {K:PS->Prop}:stepN dr Tryz.prog ⟨d,.alloc 26,ty,pos,af,g⟩ st id tk K=K (PS.put { st with heap:=(id,.box 26 [.val (.slice none 0 0)])::st.heap } d (.ptr id 0)):=s_allocC z26 rfl rfl
theorem lns26 {K:PV->Prop}:lenK Tryz.prog st 26 x K=bindO (st.ev x) (lenP K):=len_slice Tryz.underlying26
theorem ixs26 {K:PV->Prop}:indexAddrK Tryz.prog st 26 x y K=bindO (st.ev x) fun p=>bindO (st.ev y) fun q=>intK q fun i=>ixP 1 i K p:=ix_slice Tryz.underlying26 sz9
theorem sls26 {lo hi:Option Operand}{K:PV->Prop}:sliceK Tryz.prog st 26 x lo hi K=bindO (st.ev x) (slcP 1 st lo hi K):=slc_slice Tryz.underlying26 sz9
theorem app26 {tk:Nat}{K:Delta->Prop}:appendK Tryz.prog st tk ⟨.builtin .append, #[x,y], #[26,26]⟩ K=bindO (st.ev x) fun d=>bindO (st.ev y) fun s=>bindO (srcXs st 1 s) fun ys0=>bindO (fzLL ys0) fun ys=>(∀y∈ys,y.length=1)/\appT 9 1 16 st tk K d ys:=
 append_t Tryz.underlying26 sz9 by9 z9 rfl (by decide)
theorem bs26 {id tk n:Nat}{K:PS->Prop}{l:List (Nat×Operand)} :
  stepN dr Tryz.prog ⟨d,.buildSlice 26 n l.toArray,ty,pos,af,g⟩ st id tk K=bindO (evParts st l) fun ps=>bindO (valsOf ps 0) fun xs=>(∀x∈xs,x.length=1)/\xs.length=n/\n*1<=16777216/\K (PS.put { st with toks:=upd st.toks tk ⟨9,1,n⟩ } d (.row tk xs)):=
 s_buildSlice Tryz.underlying26 sz9 z9 (by decide) rfl
theorem mks26 {K:PS->Prop}{l c:Operand}:stepN dr Tryz.prog ⟨d,.makeSlice 26 l c,ty,pos,af,g⟩ st id tk K=bindO (st.ev l) fun p=>bindO (st.ev c) fun q=>intK p fun n=>intK q fun m=>n=m/\0<=n/\n<=9223372036854775807/\16*n<=281474976710656 /\
  K (PS.put { st with heap:=(id,.box 9 ((List.range (n.toNat*1)).map fun i=>[.val (.string ByteArray.empty)].getD (i%1) (.val .nilIface)))::st.heap } d (.ms id 0 n.toNat n.toNat)):=
 s_makeSlice Tryz.underlying26 sz9 by9 z9 rfl rfl (by decide) rfl
theorem rda28 {cs:List PV}{off:Nat}:readCells Tryz.prog 28 cs off=if off+6<=cs.length then some (.agg ((cs.drop off).take 6)) else none:=rd_agg ag28 sz28
theorem alc28 {K:PS->Prop}:stepN dr Tryz.prog ⟨d,.alloc 28,ty,pos,af,g⟩ st id tk K=K (PS.put { st with heap:=(id,.box 28 [.val (.int .i64 0),.val (.bool false),.val (.int .i64 0),.val (.string ByteArray.empty),.val (.slice none 0 0),.val (.slice none 0 0)])::st.heap } d (.ptr id 0)):=s_allocC z28 rfl rfl
theorem fa28_0 {K:PV->Prop}:fieldAddrK Tryz.prog st 28 x 0 K=bindO (st.ev x) (fldP 0 K):=
 fld_ (P:=Tryz.prog) (st:=st) (x:=x) (K:=K) (f:=0) Tryz.underlying28 rfl sz3 (by decide)
theorem fi28_0 {K:PV->Prop}:fieldK Tryz.prog st 28 x 0 K=bindO (st.ev x) (fieldP Tryz.prog 3 0 K):=
 field_ (P:=Tryz.prog) (st:=st) (x:=x) (K:=K) (f:=0) Tryz.underlying28 rfl
theorem fa28_1 {K:PV->Prop}:fieldAddrK Tryz.prog st 28 x 1 K=bindO (st.ev x) (fldP 1 K):=
 fld_ (P:=Tryz.prog) (st:=st) (x:=x) (K:=K) (f:=1) Tryz.underlying28 rfl sz4 (by decide)
theorem fi28_1 {K:PV->Prop}:fieldK Tryz.prog st 28 x 1 K=bindO (st.ev x) (fieldP Tryz.prog 4 1 K):=
 field_ (P:=Tryz.prog) (st:=st) (x:=x) (K:=K) (f:=1) Tryz.underlying28 rfl
theorem fa28_2 {K:PV->Prop}:fieldAddrK Tryz.prog st 28 x 2 K=bindO (st.ev x) (fldP 2 K):=
 fld_ (P:=Tryz.prog) (st:=st) (x:=x) (K:=K) (f:=2) Tryz.underlying28 rfl sz2 (by decide)
theorem fi28_2 {K:PV->Prop}:fieldK Tryz.prog st 28 x 2 K=bindO (st.ev x) (fieldP Tryz.prog 2 2 K):=
 field_ (P:=Tryz.prog) (st:=st) (x:=x) (K:=K) (f:=2) Tryz.underlying28 rfl
theorem fa28_3 {K:PV->Prop}:fieldAddrK Tryz.prog st 28 x 3 K=bindO (st.ev x) (fldP 3 K):=
 fld_ (P:=Tryz.prog) (st:=st) (x:=x) (K:=K) (f:=3) Tryz.underlying28 rfl sz9 (by decide)
theorem fi28_3 {K:PV->Prop}:fieldK Tryz.prog st 28 x 3 K=bindO (st.ev x) (fieldP Tryz.prog 9 3 K):=
 field_ (P:=Tryz.prog) (st:=st) (x:=x) (K:=K) (f:=3) Tryz.underlying28 rfl
theorem fa28_4 {K:PV->Prop}:fieldAddrK Tryz.prog st 28 x 4 K=bindO (st.ev x) (fldP 4 K):=
 fld_ (P:=Tryz.prog) (st:=st) (x:=x) (K:=K) (f:=4) Tryz.underlying28 rfl sz25 (by decide)
theorem fi28_4 {K:PV->Prop}:fieldK Tryz.prog st 28 x 4 K=bindO (st.ev x) (fieldP Tryz.prog 25 4 K):=
 field_ (P:=Tryz.prog) (st:=st) (x:=x) (K:=K) (f:=4) Tryz.underlying28 rfl
theorem fa28_5 {K:PV->Prop}:fieldAddrK Tryz.prog st 28 x 5 K=bindO (st.ev x) (fldP 5 K):=
 fld_ (P:=Tryz.prog) (st:=st) (x:=x) (K:=K) (f:=5) Tryz.underlying28 rfl sz26 (by decide)
theorem fi28_5 {K:PV->Prop}:fieldK Tryz.prog st 28 x 5 K=bindO (st.ev x) (fieldP Tryz.prog 26 5 K):=
 field_ (P:=Tryz.prog) (st:=st) (x:=x) (K:=K) (f:=5) Tryz.underlying28 rfl
theorem bld28 {l:List (Nat×Operand)}{K:PV->Prop}:buildK Tryz.prog st 28 l K=bindO (evParts st l) fun ps=>(ps.all fun e=>match e.2 with | .tup _=>false|_=>true)=true/\bindO (fillP (fun i=>[(0,1),(1,1),(2,1),(3,1),(4,1),(5,1)][i]?) [.val (.int .i64 0),.val (.bool false),.val (.int .i64 0),.val (.string ByteArray.empty),.val (.slice none 0 0),.val (.slice none 0 0)] ps) fun cs=>K (.agg cs):=
 buildC Tryz.underlying28 z28 (by kernel_rfl) rfl rfl
theorem rdo31 {cs:List PV}{off:Nat}:readCells Tryz.prog 31 cs off=cs[off]? :=rd_one ag31
theorem lns31 {K:PV->Prop}:lenK Tryz.prog st 31 x K=bindO (st.ev x) (lenP K):=len_slice Tryz.underlying31
theorem ixs31 {K:PV->Prop}:indexAddrK Tryz.prog st 31 x y K=bindO (st.ev x) fun p=>bindO (st.ev y) fun q=>intK q fun i=>ixP 6 i K p:=ix_slice Tryz.underlying31 sz33
theorem sls31 {lo hi:Option Operand}{K:PV->Prop}:sliceK Tryz.prog st 31 x lo hi K=bindO (st.ev x) (slcP 6 st lo hi K):=slc_slice Tryz.underlying31 sz33
theorem app31 {tk:Nat}{K:Delta->Prop}:appendK Tryz.prog st tk ⟨.builtin .append, #[x,y], #[31,31]⟩ K=bindO (st.ev x) fun d=>bindO (st.ev y) fun s=>bindO (srcXs st 6 s) fun ys0=>bindO (fzLL ys0) fun ys=>(∀y∈ys,y.length=6)/\appT 33 6 88 st tk K d ys:=
 append_t Tryz.underlying31 sz33 by33 z33 rfl (by decide)
theorem bs31 {id tk n:Nat}{K:PS->Prop}{l:List (Nat×Operand)} :
  stepN dr Tryz.prog ⟨d,.buildSlice 31 n l.toArray,ty,pos,af,g⟩ st id tk K=bindO (evParts st l) fun ps=>bindO (valsOf ps 0) fun xs=>(∀x∈xs,x.length=6)/\xs.length=n/\n*6<=16777216/\K (PS.put { st with toks:=upd st.toks tk ⟨33,6,n⟩ } d (.row tk xs)):=
 s_buildSlice Tryz.underlying31 sz33 z33 (by decide) rfl
theorem mks31 {K:PS->Prop}{l c:Operand}:stepN dr Tryz.prog ⟨d,.makeSlice 31 l c,ty,pos,af,g⟩ st id tk K=bindO (st.ev l) fun p=>bindO (st.ev c) fun q=>intK p fun n=>intK q fun m=>n=m/\0<=n/\n<=9223372036854775807/\88*n<=281474976710656 /\
  K (PS.put { st with heap:=(id,.box 33 ((List.range (n.toNat*6)).map fun i=>[.val (.int .i64 0),.val (.bool false),.val (.int .i64 0),.val (.string ByteArray.empty),.val (.slice none 0 0),.val (.slice none 0 0)].getD (i%6) (.val .nilIface)))::st.heap } d (.ms id 0 n.toNat n.toNat)):=
 s_makeSlice Tryz.underlying31 sz33 by33 z33 rfl rfl (by decide) rfl
theorem rda33 {cs:List PV}{off:Nat}:readCells Tryz.prog 33 cs off=if off+6<=cs.length then some (.agg ((cs.drop off).take 6)) else none:=rd_agg ag33 sz33
theorem alc33 {K:PS->Prop}:stepN dr Tryz.prog ⟨d,.alloc 33,ty,pos,af,g⟩ st id tk K=K (PS.put { st with heap:=(id,.box 33 [.val (.int .i64 0),.val (.bool false),.val (.int .i64 0),.val (.string ByteArray.empty),.val (.slice none 0 0),.val (.slice none 0 0)])::st.heap } d (.ptr id 0)):=s_allocC z33 rfl rfl
theorem fa33_0 {K:PV->Prop}:fieldAddrK Tryz.prog st 33 x 0 K=bindO (st.ev x) (fldP 0 K):=
 fld_ (P:=Tryz.prog) (st:=st) (x:=x) (K:=K) (f:=0) Tryz.underlying33 rfl sz3 (by decide)
theorem fi33_0 {K:PV->Prop}:fieldK Tryz.prog st 33 x 0 K=bindO (st.ev x) (fieldP Tryz.prog 3 0 K):=
 field_ (P:=Tryz.prog) (st:=st) (x:=x) (K:=K) (f:=0) Tryz.underlying33 rfl
theorem fa33_1 {K:PV->Prop}:fieldAddrK Tryz.prog st 33 x 1 K=bindO (st.ev x) (fldP 1 K):=
 fld_ (P:=Tryz.prog) (st:=st) (x:=x) (K:=K) (f:=1) Tryz.underlying33 rfl sz4 (by decide)
theorem fi33_1 {K:PV->Prop}:fieldK Tryz.prog st 33 x 1 K=bindO (st.ev x) (fieldP Tryz.prog 4 1 K):=
 field_ (P:=Tryz.prog) (st:=st) (x:=x) (K:=K) (f:=1) Tryz.underlying33 rfl
theorem fa33_2 {K:PV->Prop}:fieldAddrK Tryz.prog st 33 x 2 K=bindO (st.ev x) (fldP 2 K):=
 fld_ (P:=Tryz.prog) (st:=st) (x:=x) (K:=K) (f:=2) Tryz.underlying33 rfl sz2 (by decide)
theorem fi33_2 {K:PV->Prop}:fieldK Tryz.prog st 33 x 2 K=bindO (st.ev x) (fieldP Tryz.prog 2 2 K):=
 field_ (P:=Tryz.prog) (st:=st) (x:=x) (K:=K) (f:=2) Tryz.underlying33 rfl
theorem fa33_3 {K:PV->Prop}:fieldAddrK Tryz.prog st 33 x 3 K=bindO (st.ev x) (fldP 3 K):=
 fld_ (P:=Tryz.prog) (st:=st) (x:=x) (K:=K) (f:=3) Tryz.underlying33 rfl sz9 (by decide)
theorem fi33_3 {K:PV->Prop}:fieldK Tryz.prog st 33 x 3 K=bindO (st.ev x) (fieldP Tryz.prog 9 3 K):=
 field_ (P:=Tryz.prog) (st:=st) (x:=x) (K:=K) (f:=3) Tryz.underlying33 rfl
theorem fa33_4 {K:PV->Prop}:fieldAddrK Tryz.prog st 33 x 4 K=bindO (st.ev x) (fldP 4 K):=
 fld_ (P:=Tryz.prog) (st:=st) (x:=x) (K:=K) (f:=4) Tryz.underlying33 rfl sz31 (by decide)
theorem fi33_4 {K:PV->Prop}:fieldK Tryz.prog st 33 x 4 K=bindO (st.ev x) (fieldP Tryz.prog 31 4 K):=
 field_ (P:=Tryz.prog) (st:=st) (x:=x) (K:=K) (f:=4) Tryz.underlying33 rfl
theorem fa33_5 {K:PV->Prop}:fieldAddrK Tryz.prog st 33 x 5 K=bindO (st.ev x) (fldP 5 K):=
 fld_ (P:=Tryz.prog) (st:=st) (x:=x) (K:=K) (f:=5) Tryz.underlying33 rfl sz26 (by decide)
theorem fi33_5 {K:PV->Prop}:fieldK Tryz.prog st 33 x 5 K=bindO (st.ev x) (fieldP Tryz.prog 26 5 K):=
 field_ (P:=Tryz.prog) (st:=st) (x:=x) (K:=K) (f:=5) Tryz.underlying33 rfl
theorem bld33 {l:List (Nat×Operand)}{K:PV->Prop}:buildK Tryz.prog st 33 l K=bindO (evParts st l) fun ps=>(ps.all fun e=>match e.2 with | .tup _=>false|_=>true)=true/\bindO (fillP (fun i=>[(0,1),(1,1),(2,1),(3,1),(4,1),(5,1)][i]?) [.val (.int .i64 0),.val (.bool false),.val (.int .i64 0),.val (.string ByteArray.empty),.val (.slice none 0 0),.val (.slice none 0 0)] ps) fun cs=>K (.agg cs):=
 buildC Tryz.underlying33 z33 (by kernel_rfl) rfl rfl
theorem rdo34 {cs:List PV}{off:Nat}:readCells Tryz.prog 34 cs off=cs[off]? :=rd_one ag34
theorem rdo42 {cs:List PV}{off:Nat}:readCells Tryz.prog 42 cs off=cs[off]? :=rd_one ag42
theorem rda46 {cs:List PV}{off:Nat}:readCells Tryz.prog 46 cs off=if off+5<=cs.length then some (.agg ((cs.drop off).take 5)) else none:=rd_agg ag46 sz46
theorem alc46 {K:PS->Prop}:stepN dr Tryz.prog ⟨d,.alloc 46,ty,pos,af,g⟩ st id tk K=K (PS.put { st with heap:=(id,.box 46 [.val (.int .i64 0),.val (.string ByteArray.empty),.val (.int .i64 0),.val (.int .i64 0),.val (.int .i64 0)])::st.heap } d (.ptr id 0)):=s_allocC z46 rfl rfl
theorem fa46_0 {K:PV->Prop}:fieldAddrK Tryz.prog st 46 x 0 K=bindO (st.ev x) (fldP 0 K):=
 fld_ (P:=Tryz.prog) (st:=st) (x:=x) (K:=K) (f:=0) Tryz.underlying46 rfl sz3 (by decide)
theorem fi46_0 {K:PV->Prop}:fieldK Tryz.prog st 46 x 0 K=bindO (st.ev x) (fieldP Tryz.prog 3 0 K):=
 field_ (P:=Tryz.prog) (st:=st) (x:=x) (K:=K) (f:=0) Tryz.underlying46 rfl
theorem fa46_1 {K:PV->Prop}:fieldAddrK Tryz.prog st 46 x 1 K=bindO (st.ev x) (fldP 1 K):=
 fld_ (P:=Tryz.prog) (st:=st) (x:=x) (K:=K) (f:=1) Tryz.underlying46 rfl sz9 (by decide)
theorem fi46_1 {K:PV->Prop}:fieldK Tryz.prog st 46 x 1 K=bindO (st.ev x) (fieldP Tryz.prog 9 1 K):=
 field_ (P:=Tryz.prog) (st:=st) (x:=x) (K:=K) (f:=1) Tryz.underlying46 rfl
theorem fa46_2 {K:PV->Prop}:fieldAddrK Tryz.prog st 46 x 2 K=bindO (st.ev x) (fldP 2 K):=
 fld_ (P:=Tryz.prog) (st:=st) (x:=x) (K:=K) (f:=2) Tryz.underlying46 rfl sz2 (by decide)
theorem fi46_2 {K:PV->Prop}:fieldK Tryz.prog st 46 x 2 K=bindO (st.ev x) (fieldP Tryz.prog 2 2 K):=
 field_ (P:=Tryz.prog) (st:=st) (x:=x) (K:=K) (f:=2) Tryz.underlying46 rfl
theorem fa46_3 {K:PV->Prop}:fieldAddrK Tryz.prog st 46 x 3 K=bindO (st.ev x) (fldP 3 K):=
 fld_ (P:=Tryz.prog) (st:=st) (x:=x) (K:=K) (f:=3) Tryz.underlying46 rfl sz3 (by decide)
theorem fi46_3 {K:PV->Prop}:fieldK Tryz.prog st 46 x 3 K=bindO (st.ev x) (fieldP Tryz.prog 3 3 K):=
 field_ (P:=Tryz.prog) (st:=st) (x:=x) (K:=K) (f:=3) Tryz.underlying46 rfl
theorem fa46_4 {K:PV->Prop}:fieldAddrK Tryz.prog st 46 x 4 K=bindO (st.ev x) (fldP 4 K):=
 fld_ (P:=Tryz.prog) (st:=st) (x:=x) (K:=K) (f:=4) Tryz.underlying46 rfl sz3 (by decide)
theorem fi46_4 {K:PV->Prop}:fieldK Tryz.prog st 46 x 4 K=bindO (st.ev x) (fieldP Tryz.prog 3 4 K):=
 field_ (P:=Tryz.prog) (st:=st) (x:=x) (K:=K) (f:=4) Tryz.underlying46 rfl
theorem bld46 {l:List (Nat×Operand)}{K:PV->Prop}:buildK Tryz.prog st 46 l K=bindO (evParts st l) fun ps=>(ps.all fun e=>match e.2 with | .tup _=>false|_=>true)=true/\bindO (fillP (fun i=>[(0,1),(1,1),(2,1),(3,1),(4,1)][i]?) [.val (.int .i64 0),.val (.string ByteArray.empty),.val (.int .i64 0),.val (.int .i64 0),.val (.int .i64 0)] ps) fun cs=>K (.agg cs):=
 buildC Tryz.underlying46 z46 (by kernel_rfl) rfl rfl
theorem rda54 {cs:List PV}{off:Nat}:readCells Tryz.prog 54 cs off=if off+5<=cs.length then some (.agg ((cs.drop off).take 5)) else none:=rd_agg ag54 sz54
theorem alc54 {K:PS->Prop}:stepN dr Tryz.prog ⟨d,.alloc 54,ty,pos,af,g⟩ st id tk K=K (PS.put { st with heap:=(id,.box 54 [.val (.int .u8 0),.val (.int .i64 0),.val (.string ByteArray.empty),.val (.slice none 0 0),.val (.slice none 0 0)])::st.heap } d (.ptr id 0)):=s_allocC z54 rfl rfl
theorem fa54_0 {K:PV->Prop}:fieldAddrK Tryz.prog st 54 x 0 K=bindO (st.ev x) (fldP 0 K):=
 fld_ (P:=Tryz.prog) (st:=st) (x:=x) (K:=K) (f:=0) Tryz.underlying54 rfl sz5 (by decide)
theorem fi54_0 {K:PV->Prop}:fieldK Tryz.prog st 54 x 0 K=bindO (st.ev x) (fieldP Tryz.prog 5 0 K):=
 field_ (P:=Tryz.prog) (st:=st) (x:=x) (K:=K) (f:=0) Tryz.underlying54 rfl
theorem fa54_1 {K:PV->Prop}:fieldAddrK Tryz.prog st 54 x 1 K=bindO (st.ev x) (fldP 1 K):=
 fld_ (P:=Tryz.prog) (st:=st) (x:=x) (K:=K) (f:=1) Tryz.underlying54 rfl sz2 (by decide)
theorem fi54_1 {K:PV->Prop}:fieldK Tryz.prog st 54 x 1 K=bindO (st.ev x) (fieldP Tryz.prog 2 1 K):=
 field_ (P:=Tryz.prog) (st:=st) (x:=x) (K:=K) (f:=1) Tryz.underlying54 rfl
theorem fa54_2 {K:PV->Prop}:fieldAddrK Tryz.prog st 54 x 2 K=bindO (st.ev x) (fldP 2 K):=
 fld_ (P:=Tryz.prog) (st:=st) (x:=x) (K:=K) (f:=2) Tryz.underlying54 rfl sz9 (by decide)
theorem fi54_2 {K:PV->Prop}:fieldK Tryz.prog st 54 x 2 K=bindO (st.ev x) (fieldP Tryz.prog 9 2 K):=
 field_ (P:=Tryz.prog) (st:=st) (x:=x) (K:=K) (f:=2) Tryz.underlying54 rfl
theorem fa54_3 {K:PV->Prop}:fieldAddrK Tryz.prog st 54 x 3 K=bindO (st.ev x) (fldP 3 K):=
 fld_ (P:=Tryz.prog) (st:=st) (x:=x) (K:=K) (f:=3) Tryz.underlying54 rfl sz23 (by decide)
theorem fi54_3 {K:PV->Prop}:fieldK Tryz.prog st 54 x 3 K=bindO (st.ev x) (fieldP Tryz.prog 23 3 K):=
 field_ (P:=Tryz.prog) (st:=st) (x:=x) (K:=K) (f:=3) Tryz.underlying54 rfl
theorem fa54_4 {K:PV->Prop}:fieldAddrK Tryz.prog st 54 x 4 K=bindO (st.ev x) (fldP 4 K):=
 fld_ (P:=Tryz.prog) (st:=st) (x:=x) (K:=K) (f:=4) Tryz.underlying54 rfl sz26 (by decide)
theorem fi54_4 {K:PV->Prop}:fieldK Tryz.prog st 54 x 4 K=bindO (st.ev x) (fieldP Tryz.prog 26 4 K):=
 field_ (P:=Tryz.prog) (st:=st) (x:=x) (K:=K) (f:=4) Tryz.underlying54 rfl
theorem rdo60 {cs:List PV}{off:Nat}:readCells Tryz.prog 60 cs off=cs[off]? :=rd_one ag60
theorem lns60 {K:PV->Prop}:lenK Tryz.prog st 60 x K=bindO (st.ev x) (lenP K):=len_slice Tryz.underlying60
theorem ixs60 {K:PV->Prop}:indexAddrK Tryz.prog st 60 x y K=bindO (st.ev x) fun p=>bindO (st.ev y) fun q=>intK q fun i=>ixP 1 i K p:=ix_slice Tryz.underlying60 sz3
theorem sls60 {lo hi:Option Operand}{K:PV->Prop}:sliceK Tryz.prog st 60 x lo hi K=bindO (st.ev x) (slcP 1 st lo hi K):=slc_slice Tryz.underlying60 sz3
theorem app60 {tk:Nat}{K:Delta->Prop}:appendK Tryz.prog st tk ⟨.builtin .append, #[x,y], #[60,60]⟩ K=bindO (st.ev x) fun d=>bindO (st.ev y) fun s=>bindO (srcXs st 1 s) fun ys0=>bindO (fzLL ys0) fun ys=>(∀y∈ys,y.length=1)/\appT 3 1 8 st tk K d ys:=
 append_t Tryz.underlying60 sz3 by3 z3 rfl (by decide)
theorem bs60 {id tk n:Nat}{K:PS->Prop}{l:List (Nat×Operand)} :
  stepN dr Tryz.prog ⟨d,.buildSlice 60 n l.toArray,ty,pos,af,g⟩ st id tk K=bindO (evParts st l) fun ps=>bindO (valsOf ps 0) fun xs=>(∀x∈xs,x.length=1)/\xs.length=n/\n*1<=16777216/\K (PS.put { st with toks:=upd st.toks tk ⟨3,1,n⟩ } d (.row tk xs)):=
 s_buildSlice Tryz.underlying60 sz3 z3 (by decide) rfl
theorem mks60 {K:PS->Prop}{l c:Operand}:stepN dr Tryz.prog ⟨d,.makeSlice 60 l c,ty,pos,af,g⟩ st id tk K=bindO (st.ev l) fun p=>bindO (st.ev c) fun q=>intK p fun n=>intK q fun m=>n=m/\0<=n/\n<=9223372036854775807/\8*n<=281474976710656 /\
  K (PS.put { st with heap:=(id,.box 3 ((List.range (n.toNat*1)).map fun i=>[.val (.int .i64 0)].getD (i%1) (.val .nilIface)))::st.heap } d (.ms id 0 n.toNat n.toNat)):=
 s_makeSlice Tryz.underlying60 sz3 by3 z3 rfl rfl (by decide) rfl
theorem rda62 {cs:List PV}{off:Nat}:readCells Tryz.prog 62 cs off=if off+2<=cs.length then some (.agg ((cs.drop off).take 2)) else none:=rd_agg ag62 sz62
theorem alc62 {K:PS->Prop}:stepN dr Tryz.prog ⟨d,.alloc 62,ty,pos,af,g⟩ st id tk K=K (PS.put { st with heap:=(id,.box 62 [.val (.bool false),.val (.slice none 0 0)])::st.heap } d (.ptr id 0)):=s_allocC z62 rfl rfl
theorem fa62_0 {K:PV->Prop}:fieldAddrK Tryz.prog st 62 x 0 K=bindO (st.ev x) (fldP 0 K):=
 fld_ (P:=Tryz.prog) (st:=st) (x:=x) (K:=K) (f:=0) Tryz.underlying62 rfl sz4 (by decide)
theorem fi62_0 {K:PV->Prop}:fieldK Tryz.prog st 62 x 0 K=bindO (st.ev x) (fieldP Tryz.prog 4 0 K):=
 field_ (P:=Tryz.prog) (st:=st) (x:=x) (K:=K) (f:=0) Tryz.underlying62 rfl
theorem fa62_1 {K:PV->Prop}:fieldAddrK Tryz.prog st 62 x 1 K=bindO (st.ev x) (fldP 1 K):=
 fld_ (P:=Tryz.prog) (st:=st) (x:=x) (K:=K) (f:=1) Tryz.underlying62 rfl sz60 (by decide)
theorem fi62_1 {K:PV->Prop}:fieldK Tryz.prog st 62 x 1 K=bindO (st.ev x) (fieldP Tryz.prog 60 1 K):=
 field_ (P:=Tryz.prog) (st:=st) (x:=x) (K:=K) (f:=1) Tryz.underlying62 rfl
theorem bld62 {l:List (Nat×Operand)}{K:PV->Prop}:buildK Tryz.prog st 62 l K=bindO (evParts st l) fun ps=>(ps.all fun e=>match e.2 with | .tup _=>false|_=>true)=true/\bindO (fillP (fun i=>[(0,1),(1,1)][i]?) [.val (.bool false),.val (.slice none 0 0)] ps) fun cs=>K (.agg cs):=
 buildC Tryz.underlying62 z62 (by kernel_rfl) rfl rfl
theorem rdo64 {cs:List PV}{off:Nat}:readCells Tryz.prog 64 cs off=cs[off]? :=rd_one ag64
theorem rdo65 {cs:List PV}{off:Nat}:readCells Tryz.prog 65 cs off=cs[off]? :=rd_one ag65
theorem rda67 {cs:List PV}{off:Nat}:readCells Tryz.prog 67 cs off=if off+5<=cs.length then some (.agg ((cs.drop off).take 5)) else none:=rd_agg ag67 sz67
theorem alc67 {K:PS->Prop}:stepN dr Tryz.prog ⟨d,.alloc 67,ty,pos,af,g⟩ st id tk K=K (PS.put { st with heap:=(id,.box 67 [.val (.int .i64 0),.val (.string ByteArray.empty),.val (.int .i64 0),.val (.int .i64 0),.val (.int .i64 0)])::st.heap } d (.ptr id 0)):=s_allocC z67 rfl rfl
theorem fa67_0 {K:PV->Prop}:fieldAddrK Tryz.prog st 67 x 0 K=bindO (st.ev x) (fldP 0 K):=
 fld_ (P:=Tryz.prog) (st:=st) (x:=x) (K:=K) (f:=0) Tryz.underlying67 rfl sz3 (by decide)
theorem fi67_0 {K:PV->Prop}:fieldK Tryz.prog st 67 x 0 K=bindO (st.ev x) (fieldP Tryz.prog 3 0 K):=
 field_ (P:=Tryz.prog) (st:=st) (x:=x) (K:=K) (f:=0) Tryz.underlying67 rfl
theorem fa67_1 {K:PV->Prop}:fieldAddrK Tryz.prog st 67 x 1 K=bindO (st.ev x) (fldP 1 K):=
 fld_ (P:=Tryz.prog) (st:=st) (x:=x) (K:=K) (f:=1) Tryz.underlying67 rfl sz9 (by decide)
theorem fi67_1 {K:PV->Prop}:fieldK Tryz.prog st 67 x 1 K=bindO (st.ev x) (fieldP Tryz.prog 9 1 K):=
 field_ (P:=Tryz.prog) (st:=st) (x:=x) (K:=K) (f:=1) Tryz.underlying67 rfl
theorem fa67_2 {K:PV->Prop}:fieldAddrK Tryz.prog st 67 x 2 K=bindO (st.ev x) (fldP 2 K):=
 fld_ (P:=Tryz.prog) (st:=st) (x:=x) (K:=K) (f:=2) Tryz.underlying67 rfl sz2 (by decide)
theorem fi67_2 {K:PV->Prop}:fieldK Tryz.prog st 67 x 2 K=bindO (st.ev x) (fieldP Tryz.prog 2 2 K):=
 field_ (P:=Tryz.prog) (st:=st) (x:=x) (K:=K) (f:=2) Tryz.underlying67 rfl
theorem fa67_3 {K:PV->Prop}:fieldAddrK Tryz.prog st 67 x 3 K=bindO (st.ev x) (fldP 3 K):=
 fld_ (P:=Tryz.prog) (st:=st) (x:=x) (K:=K) (f:=3) Tryz.underlying67 rfl sz3 (by decide)
theorem fi67_3 {K:PV->Prop}:fieldK Tryz.prog st 67 x 3 K=bindO (st.ev x) (fieldP Tryz.prog 3 3 K):=
 field_ (P:=Tryz.prog) (st:=st) (x:=x) (K:=K) (f:=3) Tryz.underlying67 rfl
theorem fa67_4 {K:PV->Prop}:fieldAddrK Tryz.prog st 67 x 4 K=bindO (st.ev x) (fldP 4 K):=
 fld_ (P:=Tryz.prog) (st:=st) (x:=x) (K:=K) (f:=4) Tryz.underlying67 rfl sz3 (by decide)
theorem fi67_4 {K:PV->Prop}:fieldK Tryz.prog st 67 x 4 K=bindO (st.ev x) (fieldP Tryz.prog 3 4 K):=
 field_ (P:=Tryz.prog) (st:=st) (x:=x) (K:=K) (f:=4) Tryz.underlying67 rfl
theorem bld67 {l:List (Nat×Operand)}{K:PV->Prop}:buildK Tryz.prog st 67 l K=bindO (evParts st l) fun ps=>(ps.all fun e=>match e.2 with | .tup _=>false|_=>true)=true/\bindO (fillP (fun i=>[(0,1),(1,1),(2,1),(3,1),(4,1)][i]?) [.val (.int .i64 0),.val (.string ByteArray.empty),.val (.int .i64 0),.val (.int .i64 0),.val (.int .i64 0)] ps) fun cs=>K (.agg cs):=
 buildC Tryz.underlying67 z67 (by kernel_rfl) rfl rfl
theorem rda69 {cs:List PV}{off:Nat}:readCells Tryz.prog 69 cs off=if off+9<=cs.length then some (.agg ((cs.drop off).take 9)) else none:=rd_agg ag69 sz69
theorem fa69_0 {K:PV->Prop}:fieldAddrK Tryz.prog st 69 x 0 K=bindO (st.ev x) (fldP 0 K):=
 fld_ (P:=Tryz.prog) (st:=st) (x:=x) (K:=K) (f:=0) Tryz.underlying69 rfl sz65 (by decide)
theorem fi69_0 {K:PV->Prop}:fieldK Tryz.prog st 69 x 0 K=bindO (st.ev x) (fieldP Tryz.prog 65 0 K):=
 field_ (P:=Tryz.prog) (st:=st) (x:=x) (K:=K) (f:=0) Tryz.underlying69 rfl
theorem fa69_1 {K:PV->Prop}:fieldAddrK Tryz.prog st 69 x 1 K=bindO (st.ev x) (fldP 1 K):=
 fld_ (P:=Tryz.prog) (st:=st) (x:=x) (K:=K) (f:=1) Tryz.underlying69 rfl sz67 (by decide)
theorem fi69_1 {K:PV->Prop}:fieldK Tryz.prog st 69 x 1 K=bindO (st.ev x) (fieldP Tryz.prog 67 1 K):=
 field_ (P:=Tryz.prog) (st:=st) (x:=x) (K:=K) (f:=1) Tryz.underlying69 rfl
theorem fa69_2 {K:PV->Prop}:fieldAddrK Tryz.prog st 69 x 2 K=bindO (st.ev x) (fldP 6 K):=
 fld_ (P:=Tryz.prog) (st:=st) (x:=x) (K:=K) (f:=2) Tryz.underlying69 rfl sz3 (by decide)
theorem fi69_2 {K:PV->Prop}:fieldK Tryz.prog st 69 x 2 K=bindO (st.ev x) (fieldP Tryz.prog 3 6 K):=
 field_ (P:=Tryz.prog) (st:=st) (x:=x) (K:=K) (f:=2) Tryz.underlying69 rfl
theorem fa69_3 {K:PV->Prop}:fieldAddrK Tryz.prog st 69 x 3 K=bindO (st.ev x) (fldP 7 K):=
 fld_ (P:=Tryz.prog) (st:=st) (x:=x) (K:=K) (f:=3) Tryz.underlying69 rfl sz3 (by decide)
theorem fi69_3 {K:PV->Prop}:fieldK Tryz.prog st 69 x 3 K=bindO (st.ev x) (fieldP Tryz.prog 3 7 K):=
 field_ (P:=Tryz.prog) (st:=st) (x:=x) (K:=K) (f:=3) Tryz.underlying69 rfl
theorem fa69_4 {K:PV->Prop}:fieldAddrK Tryz.prog st 69 x 4 K=bindO (st.ev x) (fldP 8 K):=
 fld_ (P:=Tryz.prog) (st:=st) (x:=x) (K:=K) (f:=4) Tryz.underlying69 rfl sz34 (by decide)
theorem fi69_4 {K:PV->Prop}:fieldK Tryz.prog st 69 x 4 K=bindO (st.ev x) (fieldP Tryz.prog 34 8 K):=
 field_ (P:=Tryz.prog) (st:=st) (x:=x) (K:=K) (f:=4) Tryz.underlying69 rfl
theorem bld69 {l:List (Nat×Operand)}{K:PV->Prop}:buildK Tryz.prog st 69 l K=bindO (evParts st l) fun ps=>(ps.all fun e=>match e.2 with | .tup _=>false|_=>true)=true/\bindO (fillP (fun i=>[(0,1),(1,5),(6,1),(7,1),(8,1)][i]?) [.val (.pointer none),.val (.int .i64 0),.val (.string ByteArray.empty),.val (.int .i64 0),.val (.int .i64 0),.val (.int .i64 0),.val (.int .i64 0),.val (.int .i64 0),.val (.int .i64 0)] ps) fun cs=>K (.agg cs):=
 buildC Tryz.underlying69 z69 (by kernel_rfl) rfl rfl
theorem rda85 {cs:List PV}{off:Nat}:readCells Tryz.prog 85 cs off=if off+3<=cs.length then some (.agg ((cs.drop off).take 3)) else none:=rd_agg ag85 sz85
theorem alc85 {K:PS->Prop}:stepN dr Tryz.prog ⟨d,.alloc 85,ty,pos,af,g⟩ st id tk K=K (PS.put { st with heap:=(id,.box 85 [.val (.string ByteArray.empty),.val (.string ByteArray.empty),.val (.string ByteArray.empty)])::st.heap } d (.ptr id 0)):=s_allocC z85 rfl rfl
theorem lns85 {K:PV->Prop}:lenK Tryz.prog st 85 x K=K (.val (.int .i64 (3:Nat))):=len_array Tryz.underlying85
theorem ixs85 {K:PV->Prop}:indexAddrK Tryz.prog st 85 x y K=bindO (st.ev x) fun p=>bindO (st.ev y) fun q=>intK q fun i=>ixA 1 3 i K p:=ix_array Tryz.underlying85 sz9
theorem bld85 {l:List (Nat×Operand)}{K:PV->Prop}:buildK Tryz.prog st 85 l K=bindO (evParts st l) fun ps=>(ps.all fun e=>match e.2 with | .tup _=>false|_=>true)=true/\bindO (fillP (fun i=>some (i*1,1)) [.val (.string ByteArray.empty),.val (.string ByteArray.empty),.val (.string ByteArray.empty)] ps) fun cs=>K (.agg cs):=
 buildA Tryz.underlying85 z85 sz9 rfl rfl
theorem rda92 {cs:List PV}{off:Nat}:readCells Tryz.prog 92 cs off=if off+8<=cs.length then some (.agg ((cs.drop off).take 8)) else none:=rd_agg ag92 sz92
theorem lns92 {K:PV->Prop}:lenK Tryz.prog st 92 x K=K (.val (.int .i64 (8:Nat))):=len_array Tryz.underlying92
theorem ixs92 {K:PV->Prop}:indexAddrK Tryz.prog st 92 x y K=bindO (st.ev x) fun p=>bindO (st.ev y) fun q=>intK q fun i=>ixA 1 8 i K p:=ix_array Tryz.underlying92 sz9
theorem bld92 {l:List (Nat×Operand)}{K:PV->Prop}:buildK Tryz.prog st 92 l K=bindO (evParts st l) fun ps=>(ps.all fun e=>match e.2 with | .tup _=>false|_=>true)=true/\bindO (fillP (fun i=>some (i*1,1)) [.val (.string ByteArray.empty),.val (.string ByteArray.empty),.val (.string ByteArray.empty),.val (.string ByteArray.empty),.val (.string ByteArray.empty),.val (.string ByteArray.empty),.val (.string ByteArray.empty),.val (.string ByteArray.empty)] ps) fun cs=>K (.agg cs):=
 buildA Tryz.underlying92 z92 sz9 rfl rfl
theorem rda94 {cs:List PV}{off:Nat}:readCells Tryz.prog 94 cs off=if off+2<=cs.length then some (.agg ((cs.drop off).take 2)) else none:=rd_agg ag94 sz94
theorem fa94_0 {K:PV->Prop}:fieldAddrK Tryz.prog st 94 x 0 K=bindO (st.ev x) (fldP 0 K):=
 fld_ (P:=Tryz.prog) (st:=st) (x:=x) (K:=K) (f:=0) Tryz.underlying94 rfl sz9 (by decide)
theorem fi94_0 {K:PV->Prop}:fieldK Tryz.prog st 94 x 0 K=bindO (st.ev x) (fieldP Tryz.prog 9 0 K):=
 field_ (P:=Tryz.prog) (st:=st) (x:=x) (K:=K) (f:=0) Tryz.underlying94 rfl
theorem fa94_1 {K:PV->Prop}:fieldAddrK Tryz.prog st 94 x 1 K=bindO (st.ev x) (fldP 1 K):=
 fld_ (P:=Tryz.prog) (st:=st) (x:=x) (K:=K) (f:=1) Tryz.underlying94 rfl sz3 (by decide)
theorem fi94_1 {K:PV->Prop}:fieldK Tryz.prog st 94 x 1 K=bindO (st.ev x) (fieldP Tryz.prog 3 1 K):=
 field_ (P:=Tryz.prog) (st:=st) (x:=x) (K:=K) (f:=1) Tryz.underlying94 rfl
theorem bld94 {l:List (Nat×Operand)}{K:PV->Prop}:buildK Tryz.prog st 94 l K=bindO (evParts st l) fun ps=>(ps.all fun e=>match e.2 with | .tup _=>false|_=>true)=true/\bindO (fillP (fun i=>[(0,1),(1,1)][i]?) [.val (.string ByteArray.empty),.val (.int .i64 0)] ps) fun cs=>K (.agg cs):=
 buildC Tryz.underlying94 z94 (by kernel_rfl) rfl rfl
theorem rdo114 {cs:List PV}{off:Nat}:readCells Tryz.prog 114 cs off=cs[off]? :=rd_one ag114
theorem rdo116 {cs:List PV}{off:Nat}:readCells Tryz.prog 116 cs off=cs[off]? :=rd_one ag116
theorem rdo117 {cs:List PV}{off:Nat}:readCells Tryz.prog 117 cs off=cs[off]? :=rd_one ag117
theorem rdo118 {cs:List PV}{off:Nat}:readCells Tryz.prog 118 cs off=cs[off]? :=rd_one ag118
theorem rdo119 {cs:List PV}{off:Nat}:readCells Tryz.prog 119 cs off=cs[off]? :=rd_one ag119
theorem rda122 {cs:List PV}{off:Nat}:readCells Tryz.prog 122 cs off=if off+5<=cs.length then some (.agg ((cs.drop off).take 5)) else none:=rd_agg ag122 sz122
theorem alc122 {K:PS->Prop}:stepN dr Tryz.prog ⟨d,.alloc 122,ty,pos,af,g⟩ st id tk K=K (PS.put { st with heap:=(id,.box 122 [.val (.int .i64 0),.val (.int .i64 0),.val (.int .i64 0),.val (.int .i64 0),.val (.int .i64 0)])::st.heap } d (.ptr id 0)):=s_allocC z122 rfl rfl
theorem lns122 {K:PV->Prop}:lenK Tryz.prog st 122 x K=K (.val (.int .i64 (5:Nat))):=len_array Tryz.underlying122
theorem ixs122 {K:PV->Prop}:indexAddrK Tryz.prog st 122 x y K=bindO (st.ev x) fun p=>bindO (st.ev y) fun q=>intK q fun i=>ixA 1 5 i K p:=ix_array Tryz.underlying122 sz3
theorem bld122 {l:List (Nat×Operand)}{K:PV->Prop}:buildK Tryz.prog st 122 l K=bindO (evParts st l) fun ps=>(ps.all fun e=>match e.2 with | .tup _=>false|_=>true)=true/\bindO (fillP (fun i=>some (i*1,1)) [.val (.int .i64 0),.val (.int .i64 0),.val (.int .i64 0),.val (.int .i64 0),.val (.int .i64 0)] ps) fun cs=>K (.agg cs):=
 buildA Tryz.underlying122 z122 sz3 rfl rfl
theorem rdo128 {cs:List PV}{off:Nat}:readCells Tryz.prog 128 cs off=cs[off]? :=rd_one ag128
theorem rdo130 {cs:List PV}{off:Nat}:readCells Tryz.prog 130 cs off=cs[off]? :=rd_one ag130
theorem rda132 {cs:List PV}{off:Nat}:readCells Tryz.prog 132 cs off=if off+2<=cs.length then some (.agg ((cs.drop off).take 2)) else none:=rd_agg ag132 sz132
theorem alc132 {K:PS->Prop}:stepN dr Tryz.prog ⟨d,.alloc 132,ty,pos,af,g⟩ st id tk K=K (PS.put { st with heap:=(id,.box 132 [.val (.pointer none),.val (.slice none 0 0)])::st.heap } d (.ptr id 0)):=s_allocC z132 rfl rfl
theorem fa132_0 {K:PV->Prop}:fieldAddrK Tryz.prog st 132 x 0 K=bindO (st.ev x) (fldP 0 K):=
 fld_ (P:=Tryz.prog) (st:=st) (x:=x) (K:=K) (f:=0) Tryz.underlying132 rfl sz130 (by decide)
theorem fi132_0 {K:PV->Prop}:fieldK Tryz.prog st 132 x 0 K=bindO (st.ev x) (fieldP Tryz.prog 130 0 K):=
 field_ (P:=Tryz.prog) (st:=st) (x:=x) (K:=K) (f:=0) Tryz.underlying132 rfl
theorem fa132_1 {K:PV->Prop}:fieldAddrK Tryz.prog st 132 x 1 K=bindO (st.ev x) (fldP 1 K):=
 fld_ (P:=Tryz.prog) (st:=st) (x:=x) (K:=K) (f:=1) Tryz.underlying132 rfl sz23 (by decide)
theorem fi132_1 {K:PV->Prop}:fieldK Tryz.prog st 132 x 1 K=bindO (st.ev x) (fieldP Tryz.prog 23 1 K):=
 field_ (P:=Tryz.prog) (st:=st) (x:=x) (K:=K) (f:=1) Tryz.underlying132 rfl
theorem rdo136 {cs:List PV}{off:Nat}:readCells Tryz.prog 136 cs off=cs[off]? :=rd_one ag136
theorem ifx136:(∃ms,Tryz.prog.underlying 136=some (.interface ms))=True:=eq_true ⟨_,Tryz.underlying136⟩
theorem rdo154 {cs:List PV}{off:Nat}:readCells Tryz.prog 154 cs off=cs[off]? :=rd_one ag154
theorem rdo158 {cs:List PV}{off:Nat}:readCells Tryz.prog 158 cs off=cs[off]? :=rd_one ag158
theorem rdo167 {cs:List PV}{off:Nat}:readCells Tryz.prog 167 cs off=cs[off]? :=rd_one ag167
theorem mki167 {K:PS->Prop}:stepN dr Tryz.prog ⟨d,.makeInterface 167 x,ty,pos,af,g⟩ st id tk K=bindO (st.ev x) fun p=>K (st.put d (.iface 167 p)):=s_makeIface Tryz.underlying167 rfl
theorem rdo168 {cs:List PV}{off:Nat}:readCells Tryz.prog 168 cs off=cs[off]? :=rd_one ag168
theorem rdo171 {cs:List PV}{off:Nat}:readCells Tryz.prog 171 cs off=cs[off]? :=rd_one ag171
theorem mki171 {K:PS->Prop}:stepN dr Tryz.prog ⟨d,.makeInterface 171 x,ty,pos,af,g⟩ st id tk K=bindO (st.ev x) fun p=>K (st.put d (.iface 171 p)):=s_makeIface Tryz.underlying171 rfl
theorem rda178 {cs:List PV}{off:Nat}:readCells Tryz.prog 178 cs off=if off+3<=cs.length then some (.agg ((cs.drop off).take 3)) else none:=rd_agg ag178 sz178
theorem fa178_0 {K:PV->Prop}:fieldAddrK Tryz.prog st 178 x 0 K=bindO (st.ev x) (fldP 0 K):=
 fld_ (P:=Tryz.prog) (st:=st) (x:=x) (K:=K) (f:=0) Tryz.underlying178 rfl sz9 (by decide)
theorem fi178_0 {K:PV->Prop}:fieldK Tryz.prog st 178 x 0 K=bindO (st.ev x) (fieldP Tryz.prog 9 0 K):=
 field_ (P:=Tryz.prog) (st:=st) (x:=x) (K:=K) (f:=0) Tryz.underlying178 rfl
theorem fa178_1 {K:PV->Prop}:fieldAddrK Tryz.prog st 178 x 1 K=bindO (st.ev x) (fldP 1 K):=
 fld_ (P:=Tryz.prog) (st:=st) (x:=x) (K:=K) (f:=1) Tryz.underlying178 rfl sz9 (by decide)
theorem fi178_1 {K:PV->Prop}:fieldK Tryz.prog st 178 x 1 K=bindO (st.ev x) (fieldP Tryz.prog 9 1 K):=
 field_ (P:=Tryz.prog) (st:=st) (x:=x) (K:=K) (f:=1) Tryz.underlying178 rfl
theorem fa178_2 {K:PV->Prop}:fieldAddrK Tryz.prog st 178 x 2 K=bindO (st.ev x) (fldP 2 K):=
 fld_ (P:=Tryz.prog) (st:=st) (x:=x) (K:=K) (f:=2) Tryz.underlying178 rfl sz136 (by decide)
theorem fi178_2 {K:PV->Prop}:fieldK Tryz.prog st 178 x 2 K=bindO (st.ev x) (fieldP Tryz.prog 136 2 K):=
 field_ (P:=Tryz.prog) (st:=st) (x:=x) (K:=K) (f:=2) Tryz.underlying178 rfl
theorem bld178 {l:List (Nat×Operand)}{K:PV->Prop}:buildK Tryz.prog st 178 l K=bindO (evParts st l) fun ps=>(ps.all fun e=>match e.2 with | .tup _=>false|_=>true)=true/\bindO (fillP (fun i=>[(0,1),(1,1),(2,1)][i]?) [.val (.string ByteArray.empty),.val (.string ByteArray.empty),.val (.nilIface)] ps) fun cs=>K (.agg cs):=
 buildC Tryz.underlying178 z178 (by kernel_rfl) rfl rfl
theorem rdo180 {cs:List PV}{off:Nat}:readCells Tryz.prog 180 cs off=cs[off]? :=rd_one ag180
theorem mki180 {K:PS->Prop}:stepN dr Tryz.prog ⟨d,.makeInterface 180 x,ty,pos,af,g⟩ st id tk K=bindO (st.ev x) fun p=>K (st.put d (.iface 180 p)):=s_makeIface Tryz.underlying180 rfl
theorem rda182 {cs:List PV}{off:Nat}:readCells Tryz.prog 182 cs off=if off+1<=cs.length then some (.agg ((cs.drop off).take 1)) else none:=rd_agg ag182 sz182
theorem fa182_0 {K:PV->Prop}:fieldAddrK Tryz.prog st 182 x 0 K=bindO (st.ev x) (fldP 0 K):=
 fld_ (P:=Tryz.prog) (st:=st) (x:=x) (K:=K) (f:=0) Tryz.underlying182 rfl sz9 (by decide)
theorem fi182_0 {K:PV->Prop}:fieldK Tryz.prog st 182 x 0 K=bindO (st.ev x) (fieldP Tryz.prog 9 0 K):=
 field_ (P:=Tryz.prog) (st:=st) (x:=x) (K:=K) (f:=0) Tryz.underlying182 rfl
theorem bld182 {l:List (Nat×Operand)}{K:PV->Prop}:buildK Tryz.prog st 182 l K=bindO (evParts st l) fun ps=>(ps.all fun e=>match e.2 with | .tup _=>false|_=>true)=true/\bindO (fillP (fun i=>[(0,1)][i]?) [.val (.string ByteArray.empty)] ps) fun cs=>K (.agg cs):=
 buildC Tryz.underlying182 z182 (by kernel_rfl) rfl rfl
theorem rda184 {cs:List PV}{off:Nat}:readCells Tryz.prog 184 cs off=if off+24<=cs.length then some (.agg ((cs.drop off).take 24)) else none:=rd_agg ag184 sz184
theorem alc184 {K:PS->Prop}:stepN dr Tryz.prog ⟨d,.alloc 184,ty,pos,af,g⟩ st id tk K=K (PS.put { st with heap:=(id,.box 184 [.val (.int .u8 0),.val (.int .u8 0),.val (.int .u8 0),.val (.int .u8 0),.val (.int .u8 0),.val (.int .u8 0),.val (.int .u8 0),.val (.int .u8 0),.val (.int .u8 0),.val (.int .u8 0),.val (.int .u8 0),.val (.int .u8 0),.val (.int .u8 0),.val (.int .u8 0),.val (.int .u8 0),.val (.int .u8 0),.val (.int .u8 0),.val (.int .u8 0),.val (.int .u8 0),.val (.int .u8 0),.val (.int .u8 0),.val (.int .u8 0),.val (.int .u8 0),.val (.int .u8 0)])::st.heap } d (.ptr id 0)):=s_allocC z184 rfl rfl
theorem lns184 {K:PV->Prop}:lenK Tryz.prog st 184 x K=K (.val (.int .i64 (24:Nat))):=len_array Tryz.underlying184
theorem ixs184 {K:PV->Prop}:indexAddrK Tryz.prog st 184 x y K=bindO (st.ev x) fun p=>bindO (st.ev y) fun q=>intK q fun i=>ixA 1 24 i K p:=ix_array Tryz.underlying184 sz5
theorem rda191 {cs:List PV}{off:Nat}:readCells Tryz.prog 191 cs off=if off+20<=cs.length then some (.agg ((cs.drop off).take 20)) else none:=rd_agg ag191 sz191
theorem lns191 {K:PV->Prop}:lenK Tryz.prog st 191 x K=K (.val (.int .i64 (20:Nat))):=len_array Tryz.underlying191
theorem ixs191 {K:PV->Prop}:indexAddrK Tryz.prog st 191 x y K=bindO (st.ev x) fun p=>bindO (st.ev y) fun q=>intK q fun i=>ixA 1 20 i K p:=ix_array Tryz.underlying191 sz168
theorem rdo192 {cs:List PV}{off:Nat}:readCells Tryz.prog 192 cs off=cs[off]? :=rd_one ag192
theorem rda196 {cs:List PV}{off:Nat}:readCells Tryz.prog 196 cs off=if off+32<=cs.length then some (.agg ((cs.drop off).take 32)) else none:=rd_agg ag196 sz196
theorem lns196 {K:PV->Prop}:lenK Tryz.prog st 196 x K=K (.val (.int .i64 (32:Nat))):=len_array Tryz.underlying196
theorem ixs196 {K:PV->Prop}:indexAddrK Tryz.prog st 196 x y K=bindO (st.ev x) fun p=>bindO (st.ev y) fun q=>intK q fun i=>ixA 1 32 i K p:=ix_array Tryz.underlying196 sz5
theorem rda197 {cs:List PV}{off:Nat}:readCells Tryz.prog 197 cs off=if off+64<=cs.length then some (.agg ((cs.drop off).take 64)) else none:=rd_agg ag197 sz197
theorem lns197 {K:PV->Prop}:lenK Tryz.prog st 197 x K=K (.val (.int .i64 (64:Nat))):=len_array Tryz.underlying197
theorem ixs197 {K:PV->Prop}:indexAddrK Tryz.prog st 197 x y K=bindO (st.ev x) fun p=>bindO (st.ev y) fun q=>intK q fun i=>ixA 1 64 i K p:=ix_array Tryz.underlying197 sz5
attribute [go_sem ↓] mki9 rng9 lns9 ixs9 sls9 lns22 ixs22 sls22 app22 bs22 mks22 lns23 ixs23 sls23 aps23 cvr23 app23 bs23 mks23 lns25 ixs25 sls25 app25 bs25 mks25 alc26 lns26 ixs26 sls26 app26 bs26 mks26 alc28 fa28_0 fi28_0 fa28_1 fi28_1 fa28_2 fi28_2 fa28_3 fi28_3 fa28_4 fi28_4 fa28_5 fi28_5 bld28 lns31 ixs31 sls31 app31 bs31 mks31 alc33 fa33_0 fi33_0 fa33_1 fi33_1 fa33_2 fi33_2 fa33_3 fi33_3 fa33_4 fi33_4 fa33_5 fi33_5 bld33 alc46 fa46_0 fi46_0 fa46_1 fi46_1 fa46_2 fi46_2 fa46_3 fi46_3 fa46_4 fi46_4 bld46 alc54 fa54_0 fi54_0 fa54_1 fi54_1 fa54_2 fi54_2 fa54_3 fi54_3 fa54_4 fi54_4 lns60 ixs60 sls60 app60 bs60 mks60 alc62 fa62_0 fi62_0 fa62_1 fi62_1 bld62 alc67 fa67_0 fi67_0 fa67_1 fi67_1 fa67_2 fi67_2 fa67_3 fi67_3 fa67_4 fi67_4 bld67 fa69_0 fi69_0 fa69_1 fi69_1 fa69_2 fi69_2 fa69_3 fi69_3 fa69_4 fi69_4 bld69 alc85 lns85 ixs85 bld85 lns92 ixs92 bld92 fa94_0 fi94_0 fa94_1 fi94_1 bld94 alc122 lns122 ixs122 bld122 alc132 fa132_0 fi132_0 fa132_1 fi132_1 mki167 mki171 fa178_0 fi178_0 fa178_1 fi178_1 fa178_2 fi178_2 bld178 mki180 fa182_0 fi182_0 bld182 alc184 lns184 ixs184 lns191 ixs191 lns196 ixs196 lns197 ixs197
attribute [go_sem] rdo2 sz2 Tryz.underlying2 rdo3 sz3 Tryz.underlying3 rdo4 sz4 Tryz.underlying4 rdo5 sz5 Tryz.underlying5 rdo9 sz9 Tryz.underlying9 rdo20 sz20 ifx20 rdo21 sz21 Tryz.underlying21 rdo22 sz22 rdo23 sz23 isb23 Tryz.underlying23 rdo25 sz25 rdo26 sz26 rda28 sz28 rdo31 sz31 rda33 sz33 rdo34 sz34 Tryz.underlying34 rdo42 sz42 rda46 sz46 rda54 sz54 rdo60 sz60 rda62 sz62 rdo64 sz64 rdo65 sz65 rda67 sz67 rda69 sz69 rda85 sz85 rda92 sz92 rda94 sz94 rdo114 sz114 rdo116 sz116 rdo117 sz117 rdo118 sz118 rdo119 sz119 rda122 sz122 rdo128 sz128 rdo130 sz130 rda132 sz132 rdo136 sz136 ifx136 rdo154 sz154 rdo158 sz158 Tryz.underlying158 rdo167 sz167 Tryz.underlying167 rdo168 sz168 Tryz.underlying168 rdo171 sz171 rda178 sz178 rdo180 sz180 rda182 sz182 rda184 sz184 rda191 sz191 rdo192 sz192 Tryz.underlying192 rda196 sz196 rda197 sz197
end Go.Proofs.YtcgmpcbkndpmbaaGreatDoor

end
section
open Go Go.Proofs Go.Pw Go.RowKit
namespace Go.Proofs.YtcgmpcbkndpmbaaGreatDoor
set_option maxRecDepth 4000
set_option linter.unusedVariables false
set_option linter.unusedSimpArgs false
theorem dropK_nil:∀l:List (Nat×Tok),dropK [] l=l
 | []=>by simp[dropK]
 |e::r=>by simp[dropK,inL,dropK_nil r]
theorem OkI.on1 {g0:FuncId}{T:TypeId}{cs cs' ags:List PV}{R:PV}(i:Nat){st:PS}
  (ok:OkI Tryz.prog g0 (.ptr 0 0::ags) ⟨[],[(0,.box T cs)],[],1,0⟩ (fun r st'=>r=R/\st'.heap=[(0,.box T cs')]/\st'.toks=[]/\st'.nx=1))
  (hi:i<st.nx) (hcs:PV.ltL 0 0 cs=true) (hcs':PV.ltL 0 0 cs'=true) (hag:PV.ltL 0 0 ags=true) (hR:R.lt 0 0=true) (ho:lkp st.heap i=some (.box T cs)) :
  OkI Tryz.prog g0 (.ptr i 0::ags) st (fun r st'=>r=R/\∃nt',st.nt<=nt'/\st'=⟨st.env,(i,.box T cs')::dropH [i] st.heap,st.toks,st.nx,nt'⟩):=by
 refine OkI.mono' (OkI.frameT [i] [] ok (by simp) (fun j hj=>by rw[List.mem_singleton]at hj; subst hj; exact hi) (by simp) (fun j hj=>by cases hj) (fun e he=>?_) (fun e he=>by cases he) ?_ ?_) ?_
 ·simp only[List.mem_singleton]at he
  subst he
  refine⟨Nat.zero_lt_one,ltL_low (Nat.zero_le 1) (Nat.zero_le 0) cs hcs,?_⟩
  show lkp st.heap i=_
  rw[ho,PObj.rm,rmL_frz cs hcs]
 ·simp only[PV.ltL,PV.lt,List.length_singleton,Nat.zero_lt_one,decide_true,Bool.true_and]
  exact ltL_low (Nat.zero_le 1) (Nat.zero_le 0) ags hag
 ·rw[PV.rmL,rmL_frz ags hag]; rfl
 ·rintro r st' ⟨r0,s0,⟨rfl,h3,h4,h5⟩,rfl,rfl⟩
  refine⟨rm_frz r0 hR,s0.nt-0+st.nt,by omega,?_⟩
  rw[h3,h4,h5]
  simp only[rmH,rmK,PObj.rm,rmL_frz cs' hcs',List.length_singleton,List.length_nil,List.cons_append,List.nil_append,dropK_nil]
  have:1-1+st.nx=st.nx:=by omega
  rw[this]
  rfl
theorem OkI.on2 {g0:FuncId}{T U:TypeId}{cs cs' ds ds' ags:List PV}{R:PV}(i j:Nat){st:PS}
  (ok:OkI Tryz.prog g0 (.ptr 0 0 :: .ptr 1 0::ags) ⟨[],[(0,.box T cs),(1,.box U ds)],[],2,0⟩ (fun r st'=>r=R/\st'.heap=[(0,.box T cs'),(1,.box U ds')]/\st'.toks=[]/\st'.nx=2))
  (hij:i≠j) (hi:i<st.nx) (hj:j<st.nx) (hcs:PV.ltL 0 0 cs=true) (hcs':PV.ltL 0 0 cs'=true) (hds:PV.ltL 0 0 ds=true) (hds':PV.ltL 0 0 ds'=true) (hag:PV.ltL 0 0 ags=true) (hR:R.lt 0 0=true) (ho:lkp st.heap i=some (.box T cs)) (hp:lkp st.heap j=some (.box U ds)) :
  OkI Tryz.prog g0 (.ptr i 0 :: .ptr j 0::ags) st (fun r st'=>r=R/\∃nt',st.nt<=nt'/\st'=⟨st.env,(i,.box T cs')::(j,.box U ds')::dropH [i,j] st.heap,st.toks,st.nx,nt'⟩):=by
 refine OkI.mono' (OkI.frameT [i,j] [] ok (by simp[hij]) (fun k hk=>by simp at hk; rcases hk with rfl|rfl<;>assumption) (by simp) (fun j hj=>by cases hj) (fun e he=>?_) (fun e he=>by cases he) ?_ ?_) ?_
 ·simp only[List.mem_cons,List.not_mem_nil,or_false]at he
  rcases he with rfl|rfl
  ·refine⟨Nat.zero_lt_succ _,ltL_low (Nat.zero_le 2) (Nat.zero_le 0) cs hcs,?_⟩
   show lkp st.heap i=_
   rw[ho,PObj.rm,rmL_frz cs hcs]
  ·refine⟨Nat.lt_succ_self _,ltL_low (Nat.zero_le 2) (Nat.zero_le 0) ds hds,?_⟩
   show lkp st.heap j=_
   rw[hp,PObj.rm,rmL_frz ds hds]
 ·simp only[PV.ltL,PV.lt,List.length_cons,List.length_nil,Nat.zero_add]
  have:=ltL_low (Nat.zero_le 2) (Nat.zero_le 0) ags hag
  rw[this]
  rfl
 ·rw[PV.rmL,PV.rmL,rmL_frz ags hag]; rfl
 ·rintro r st' ⟨r0,s0,⟨rfl,h3,h4,h5⟩,rfl,rfl⟩
  refine⟨rm_frz r0 hR,s0.nt-0+st.nt,by omega,?_⟩
  rw[h3,h4,h5]
  simp only[rmH,rmK,PObj.rm,rmL_frz cs' hcs',rmL_frz ds' hds',List.length_cons,List.length_nil,List.cons_append,List.nil_append,dropK_nil]
  have:0+1+1-(0+1+1)+st.nx=st.nx:=by omega
  have h2:2-(0+1+1)+st.nx=st.nx:=by omega
  rw[h2]
  rfl
end Go.Proofs.YtcgmpcbkndpmbaaGreatDoor

end
section
open Go Go.Proofs Go.RowKit
namespace Go.Proofs.YtcgmpcbkndpmbaaGreatDoor
set_option maxRecDepth 4000
set_option linter.unusedVariables false
set_option linter.unusedSimpArgs false
def Heads (T n:Nat):Prop:=0<n/\liesAt Tryz.prog Tryz.prog.depth T (n/Tryz.prog.cellsOf T) 0 132 1=true
set_option maxHeartbeats 1000000 in
set_option maxRecDepth 100000 in
theorem copy_used (b:Nat)(w:World)(h0:w.cell? ⟨b,0,none⟩=some (.pointer (some ⟨b,0,none⟩))) :
  Calls Tryz.prog 106 #[.pointer (some ⟨b,0,none⟩)] w fun e w'=>e = .returned (.tuple #[])/\w'=w:=by
 obtain⟨j,hj,hjs⟩:=Option.map_eq_some_iff.1 (show(Tryz.prog.info? 132).map (·.size)=some 2 by kernel_rfl)
 go_enter Tryz.func106,Tryz.ntmps106
 go_wp2
 rw[Lib.run_neq_ptr_same w _ Tryz.underlying130 hj]
 go_wp2
 go_end0
 exact⟨rfl,rfl⟩
set_option maxHeartbeats 1000000 in
set_option maxRecDepth 100000 in
theorem copy_fresh {T n:Nat}(hT:Heads T n)(b:Nat)(w:World)(h0:w.cell? ⟨b,0,none⟩=some (.pointer none))(hsh:w.shape? b=some (T,n))(hfz:w.frozen? ⟨b,0,none⟩=false) :
  Calls Tryz.prog 106 #[.pointer (some ⟨b,0,none⟩)] w fun e w'=>e = .returned (.tuple #[])/\w'=w.setCell ⟨b,0,none⟩ (.pointer (some ⟨b,0,none⟩)):=by
 obtain⟨j,hj,hjs⟩:=Option.map_eq_some_iff.1 (show(Tryz.prog.info? 132).map (·.size)=some 2 by kernel_rfl)
 obtain⟨hn,hlies⟩:=hT
 go_enter Tryz.func106,Tryz.ntmps106
 go_wp2
 rw[Lib.run_to_unsafe w ⟨b,0,none⟩ Tryz.underlying130 Tryz.underlying163 hj (by rw[hjs]; decide) hsh hn]
 simp only[Result.andThen]
 rw[Oper.upon_value]
 go_wp2
 rw[run_callFunc_extern Tryz.func119 (by kernel_rfl) (by kernel_rfl) (by kernel_rfl) (e:=Extern.AbiNoEscape.same) (by kernel_rfl)]
 rw[Lib.run_noEscape]
 simp only[Result.andThen]
 rw[Oper.upon_value]
 go_wp2
 rw[Lib.run_from_unsafe w ⟨b,0,none⟩ Tryz.underlying163 Tryz.underlying130 hj hsh hlies]
 simp only[Result.andThen]
 rw[Oper.upon_value]
 go_wp2
 go_end0
 exact⟨rfl,rfl⟩
set_option maxHeartbeats 2000000 in
set_option maxRecDepth 100000 in
theorem string_nil (b:Nat)(w:World)(h1:w.cell? ⟨b,1,none⟩=some (.slice none 0 0)) :
  Calls Tryz.prog 92 #[.pointer (some ⟨b,0,none⟩)] w fun e w'=>e = .returned (.string ⟨#[]⟩)/\w'=w.drew:=by
 have hUS:∀(W:World) (q:Option Addr),(Builtin.unsafeString_ #[154,3] 9 #[.pointer q,.int .i64 0]).run Tryz.prog W = .ok (.string .empty) W:=fun W q=>Lib.run_unsafeString_none W _ _ _ q
 have c1:w.drew.cell? ⟨b,1,none⟩=some (.slice none 0 0):=h1
 have hSD:(Builtin.unsafeSliceData_ #[23] 154 #[.slice none 0 0]).run Tryz.prog w.drew = .ok (.pointer none) w.drew:=rfl
 have mixed:Tryz.prog.follows .mixedOrders=true:=by kernel_rfl
 go_enter Tryz.func92,Tryz.ntmps92
 go_wp2
 go_region_o
 all_goals (go_wp2; go_ret; exact⟨rfl,rfl⟩)
set_option maxHeartbeats 2000000 in
set_option maxRecDepth 100000 in
theorem string_some (b g cap:Nat)(w:World)(l:List UInt8)(h0:l≠[])(hlc:l.length<=cap)(hcm:cap<=maxLen)(h1:w.cell? ⟨b,1,none⟩=some (.slice (some ⟨g,0,none⟩) l.length cap))
  (cur:Array Value) (hg:w.heap[g]? = some (.cells cur 5 (0,0))) (hcs:cur.size=cap) (hc:∀(j:Nat) (x:UInt8),l[j]? = some x->cur[j]? = some (Value.int .u8 x.toNat)) :
  Calls Tryz.prog 92 #[.pointer (some ⟨b,0,none⟩)] w fun e w'=>e = .returned (.string ⟨l.toArray⟩)/\w'=w.drew.freeze ⟨g,0,none⟩ l.length:=by
 have hl0:l.length≠0:=by simpa using h0
 have c1:w.drew.cell? ⟨b,1,none⟩=some (.slice (some ⟨g,0,none⟩) l.length cap):=h1
 have hSD:(Builtin.unsafeSliceData_ #[23] 154 #[.slice (some ⟨g,0,none⟩) l.length cap]).run Tryz.prog w.drew = .ok (.pointer (some ⟨g,0,none⟩)) w.drew:=
  Lib.run_unsafeSliceData_row _ _ _ _ _ _ (by omega)
 have hUS:(Builtin.unsafeString_ #[154,3] 9 #[.pointer (some ⟨g,0,none⟩),.int .i64 l.length]).run Tryz.prog w.drew = .ok (.string ⟨l.toArray⟩) (w.drew.freeze ⟨g,0,none⟩ l.length):=by
  refine Lib.run_unsafeString_row w.drew 154 3 9 5 Tryz.underlying154 (by kernel_rfl) g cur.size (by have hg':w.drew.heap[g]? = some (.cells cur 5 (0,0)):=hg; simp[World.shape?,hg']) l h0 (by omega) (by unfold maxLen at hcm; omega) ?_
  intro j x hx
  rw[Addr.add_lit,Nat.zero_add]
  have hg':w.drew.heap[g]? = some (.cells cur 5 (0,0)):=hg
  rw[Lib.cell_of_heap hg']
  exact hc j x hx
 have mixed:Tryz.prog.follows .mixedOrders=true:=by kernel_rfl
 go_enter Tryz.func92,Tryz.ntmps92
 go_wp2
 go_region_o
 all_goals (go_wp2; go_ret; exact⟨rfl,rfl⟩)
end Go.Proofs.YtcgmpcbkndpmbaaGreatDoor

end
section
open Go Go.Proofs Go.Pw Go.RowKit
namespace Go.Proofs.YtcgmpcbkndpmbaaGreatDoor
set_option maxRecDepth 4000
set_option linter.unusedVariables false
set_option linter.unusedSimpArgs false
section
variable {own:Nat->Prop} {S0:Base} {w0 w:World} {C:Cx} {U V:Nat->Prop} {st:PS}
theorem setCell_row {vs:Array Value}{t:TypeId}{fr:Nat×Nat}{g i:Nat}(hg:w.heap[g]? = some (.cells vs t fr))(v:Value):w.setCell ⟨g,i,none⟩ v=w.setRow g (vs.setIfInBounds i v):=by
 unfold World.setCell World.setRow
 congr 1
 refine Array.ext_getElem? fun j=>?_
 simp only[Array.getElem?_modify]
 split
 ·rename_i h
  subst h
  rw[hg]
  rfl
 ·rfl
theorem Rel.toks_ (R:Rel own S0 w0 C U V st w){T:List (Nat×Tok)}(hT:∀k t,lkp T k=some t->lkp st.toks k=some t):Rel own S0 w0 C U V { st with toks:=T } w/\Ext C C st.toks T U V U V:=by
 have X:Ext C C st.toks T U V U V:=⟨SLe.refl _,fun _ _=>rfl,fun k t _ h=>⟨t,hT k t h,Nat.le_refl _,rfl,fun _=>rfl⟩,fun _ h=>h,fun _ h=>h⟩
 refine⟨⟨R.frame,R.stable,fun id T' cs h=>?_,R.iter,R.hown,R.hinj,fun k t h=>R.tok k t (hT k t h),fun i oi k t h1 h2=>R.tbox i oi k t h1 (hT k t h2),fun i j ti tj h1 h2=>R.tinj i j ti tj (hT _ _ h1) (hT _ _ h2),R.snew,R.sold,R.base.trans X,R.glob⟩,X⟩
 obtain⟨vs,h1,h2,h3⟩:=R.box id T' cs h
 exact⟨vs,h1,h2,fun i v p hv hp=>⟨(h3 i v p hv hp).1,(h3 i v p hv hp).2.ext X⟩⟩
theorem freeze_other (w:World)(g n k:Nat)(h:k≠g):(w.freeze ⟨g,0,none⟩ n).heap[k]? = w.heap[k]? :=by
 unfold World.freeze
 split
 ·rfl
 ·simp[Array.getElem?_modify,Ne.symm h]
theorem freeze_cell (w:World)(g n b o:Nat):(w.freeze ⟨g,0,none⟩ n).cell? ⟨b,o,none⟩=w.cell? ⟨b,o,none⟩:=by
 by_cases hb:b=g
 ·subst hb
  unfold World.freeze
  split
  ·rfl
  ·unfold World.cell?
   simp only[Array.getElem?_modify,if_true]
   cases w.heap[b]? with
   |none=>rfl
   |some x=>cases x<;>rfl
 ·exact World.cell?_of_block (freeze_other w g n b hb)
theorem Rel.freeze_ (R:Rel own S0 w0 C U V st w){k:Nat}{t:Tok}(hk:lkp st.toks k=some t){T:List (Nat×Tok)}(hT:∀j t,lkp T j=some t->j≠k/\lkp st.toks j=some t)(n:Nat) :
  Rel own S0 w0 C U V { st with toks:=T } (w.freeze ⟨(C.τ k).1,0,none⟩ n)/\Ext C C st.toks T U V U V:=by
 obtain⟨R',X⟩:=Rel.toks_ R (T:=T) fun j t h=>(hT j t h).2
 have hown:=(R.tok k t hk).2.1
 have hother:∀b,b≠(C.τ k).1->(w.freeze ⟨(C.τ k).1,0,none⟩ n).heap[b]? = w.heap[b]? :=fun b hb=>freeze_other w _ n b hb
 have hsize:(w.freeze ⟨(C.τ k).1,0,none⟩ n).heap.size=w.heap.size:=by
  unfold World.freeze
  split
  ·rfl
  ·simp
 have hio:(w.freeze ⟨(C.τ k).1,0,none⟩ n).os=w.os/\(w.freeze ⟨(C.τ k).1,0,none⟩ n).tape=w.tape/\(w.freeze ⟨(C.τ k).1,0,none⟩ n).output=w.output:=by
  unfold World.freeze
  split<;>exact⟨rfl,rfl,rfl⟩
 refine⟨⟨⟨by rw[hio.1]; exact R.frame.os,by rw[hio.2.1]; exact R.frame.tape,by rw[hio.2.2]; exact R.frame.output,by rw[hsize]; exact R.frame.size,fun b hb hn=>?_⟩,fun b o v h=>?_,fun id T' cs h=>?_,fun id s pos h=>?_,fun id o h=>?_,R'.hinj,fun j t' h=>?_,R'.tbox,R'.tinj,R'.snew,R'.sold,R'.base,R'.glob⟩,X⟩
 ·rw[hother b (fun e=>by subst e; rcases hown with h|h; exact hn h; omega)]
  exact R.frame.block b hb hn
 ·rw[freeze_cell]
  exact R.stable b o v h
 ·rw[hother _ (fun e=>R.tbox id _ k t h hk e)]
  exact R'.box id T' cs h
 ·rw[hother _ (fun e=>R.tbox id _ k t h hk e)]
  exact R.iter id s pos h
 ·rw[hsize]
  exact R.hown id o h
 ·rw[hother _ (fun e=>(hT j t' h).1 (R.tinj j k t' t (hT j t' h).2 hk e))]
  exact R'.tok j t' h
end
abbrev vNP:PV:= .val (.pointer none)
@[irreducible] def rowS (k:Nat) (s:ByteArray):PV:=if s.size=0 then .val (.slice none 0 0) else .row k (encS s)
@[irreducible] def tokS (k:Nat) (e:TypeId) (s:ByteArray):List (Nat×Tok):=if s.size=0 then[] else[(k,⟨e,1,s.size⟩)]
def bldB (T:TypeId)(k:Nat)(a:PV)(s:ByteArray)(rest:List PV):List (Nat×PObj):=[(0,.box T (a::rowS k s::rest))]
theorem three_of {vs:Array Value}{n:Nat}(h:vs.size=n+2):∃v0 v1 vr,vs=⟨v0::v1::vr⟩/\vr.length=n:=by
 cases vs with
 |mk l=>match l,h with
  |v0::v1::vr,h=>exact⟨v0,v1,vr,rfl,by simpa using h⟩
theorem copy_ok {T:TypeId}{rest:List PV}(hT:Heads T (rest.length+2))(nx nt:Nat)(a b:PV)(TK:List (Nat×Tok))(ha:a=vNP∨a = .ptr 0 0) :
  OkI Tryz.prog 106 [.ptr 0 0] ⟨[],[(0,.box T (a::b::rest))],TK,nx,nt⟩ (fun r st'=>r = .tup []/\st'=⟨[],[(0,.box T (.ptr 0 0::b::rest))],TK,nx,nt⟩):=by
 refine⟨by kernel_rfl,fun own S0 w0 w C vals R hn hr=>?_⟩
 have ho:lkp ([(0,PObj.box T (a::b::rest))]:List (Nat×PObj)) 0=some (.box T (a::b::rest)):=by simp[lkp]
 obtain⟨vs,hb,hs,hv⟩:=R.box 0 _ _ ho
 obtain⟨v,rfl⟩:∃v,vals = #[v]:=by
  cases vals with
  |mk l=>match l,hn with
   | [v],_=>exact⟨v,rfl⟩
 obtain⟨v0,v1,vr,rfl,hvr⟩:=three_of (n:=rest.length) hs
 obtain⟨rfl,hU⟩:=rep_ptr (hr 0 v _ rfl rfl)
 have h0:=hv 0 v0 a rfl rfl
 have hc:w.cell? ⟨C.ρ 0,0,none⟩=some v0:=by rw[Lib.cell_of_heap hb]; rfl
 rcases ha with rfl|rfl
 ·obtain⟨rfl,_⟩:=rep_val h0.2
  refine(copy_fresh hT (C.ρ 0) w hc (by simp[World.shape?,hb,hvr]) (by simp[World.frozen?,hb])).mono ?_
  rintro e w' ⟨rfl,rfl⟩
  refine⟨.tup [],_,.tuple #[],C,⟨rfl,rfl⟩,rfl,?_,Ext.refl _ _ _ _,.tup rfl (fun i v p hv hp=>by simp at hp)⟩
  have R':=R.store (id:=0) (T:=T) ho (cs':= .ptr 0 0::b::rest) (vs':=⟨.pointer (some ⟨C.ρ 0,0,none⟩)::v1::vr⟩) ⟨by simpa using hvr,fun i v p hv' hp=>by
   match i with
   |0=>simp at hv' hp; subst hv' hp; exact⟨rfl,.ptr hU⟩
   |i+1=>exact hv (i+1) v p (by simpa using hv') (by simpa using hp)⟩
  rw[setCell_row hb]
  have eu:upd [(0,PObj.box T (vNP::b::rest))] 0 (.box T (.ptr 0 0::b::rest))=[(0,.box T (.ptr 0 0::b::rest))]:=by simp[upd]
  rw[<-eu]
  exact R'
 ·obtain⟨rfl,_⟩:=rep_ptr h0.2
  refine(copy_used (C.ρ 0) w hc).mono ?_
  rintro e w' ⟨rfl,rfl⟩
  exact⟨.tup [],_,.tuple #[],C,⟨rfl,rfl⟩,rfl,R,Ext.refl _ _ _ _,.tup rfl (fun i v p hv hp=>by simp at hp)⟩
theorem string_ok0 (T:TypeId)(s:ByteArray)(k nx nt:Nat)(a:PV)(rest:List PV) :
  OkI Tryz.prog 92 [.ptr 0 0] ⟨[],bldB T k a s rest,tokS k 5 s,nx,nt⟩ (fun r st'=>r = .val (.string s)/\st'=⟨[],bldB T k a s rest,[],nx,nt⟩):=by
 refine⟨by kernel_rfl,fun own S0 w0 w C vals R hn hr=>?_⟩
 have ho:lkp (bldB T k a s rest) 0=some (.box T (a::rowS k s::rest)):=by simp[bldB,lkp]
 obtain⟨vs,hb,hs,hv⟩:=R.box 0 _ _ ho
 obtain⟨v,rfl⟩:∃v,vals = #[v]:=by
  cases vals with
  |mk l=>match l,hn with
   | [v],_=>exact⟨v,rfl⟩
 obtain⟨v0,v1,vr,rfl,hvr⟩:=three_of (n:=rest.length) hs
 obtain⟨rfl,hU⟩:=rep_ptr (hr 0 v _ rfl rfl)
 have h1:=hv 1 v1 (rowS k s) rfl rfl
 have hc:w.cell? ⟨C.ρ 0,1,none⟩=some v1:=by rw[Lib.cell_of_heap hb]; rfl
 by_cases h0:s.size=0
 ·have es:s=⟨#[]⟩:=by
   cases s with
   |mk d=>congr 1; exact Array.size_eq_zero_iff.1 h0
  simp only[rowS,h0,if_true]at h1
  obtain⟨rfl,_⟩:=rep_val h1.2
  have eT:tokS k 5 s=[]:=by simp[tokS,h0]
  refine(string_nil (C.ρ 0) w hc).mono ?_
  rintro e w' ⟨rfl,rfl⟩
  rw[eT]at R ⊢
  exact⟨.val (.string s),_,.string ⟨#[]⟩,C,⟨rfl,rfl⟩,rfl,R.drew,Ext.refl _ _ _ _,by rw[es]; exact .frz (.val rfl)⟩
 ·have eT:tokS k 5 s=[(k,⟨5,1,s.size⟩)]:=by simp[tokS,h0]
  simp only[rowS,h0,if_false]at h1
  rw[eT]at R h1
  have hk:lkp [(k,(⟨5,1,s.size⟩:Tok))] k=some ⟨5,1,s.size⟩:=by simp[lkp]
  obtain⟨hV,hown,⟨cur,hcur,hcs⟩,hnc,hcm,hS⟩:=R.tok k _ hk
  have hlen:(encS s).length=s.size:=by simp[encS]
  have hll:s.data.toList.length=s.size:=by simp
  have hval:v1 = .slice (some ⟨(C.τ k).1,0,none⟩) s.data.toList.length (C.τ k).2:=by
   rw[hll]
   have h2:=h1.2
   cases h2 with
   |frz h=>cases h
   |row g1 g2 g3=>exact(g3 _ hk).2.2 hlen
  have hxf:=rep_sl (.inr ⟨_,h1.2⟩)
  have hcells:∀(j:Nat) (x:UInt8),s.data.toList[j]? = some x->cur[j]? = some (Value.int .u8 x.toNat):=by
   intro j x hx
   have hj:j<(encS s).length:=by rw[hlen]; have:=(List.getElem?_eq_some_iff.1 hx).1; omega
   rw[hval]at hxf
   generalize hvv:Value.slice (some ⟨(C.τ k).1,0,none⟩) s.data.toList.length (C.τ k).2=v at hxf
   have hxs:(encS s)[j]? = some [.val (.int .u8 x.toNat)]:=by simp[encS,hx]
   cases hxf with
   | @sl A n cc sz' _ f hn' hcc hsz' hA hrr=>
    injection hvv with g1 g2 g3
    subst g1
    obtain⟨b,o',e3,hS'⟩:=hA (by omega)
    injection e3 with e3
    injection e3 with e3 e4
    subst e3 e4
    have e5:sz'=1:=(hsz' _ (List.mem_of_getElem? hxs)).symm
    subst e5
    have h1:=R.stable _ _ _ (hS' j 0 (by omega) (by omega))
    rw[cell_of_row w _ _ cur 5 (0,0) hcur]at h1
    have h2:=hrr j 0 _ _ hxs rfl
    rw[show f j 0=Value.int .u8 x.toNat from by generalize f j 0=u at h2; cases h2; rfl]at h1
    simpa using h1
  rw[hval]at hc
  refine(string_some (C.ρ 0) (C.τ k).1 (C.τ k).2 w s.data.toList (fun h=>h0 (by rw[<-hll,h]; rfl)) (by rw[hll]; exact hnc) hcm hc cur hcur (by rw[hcs,Nat.mul_one]) hcells).mono ?_
  rintro e w' ⟨rfl,rfl⟩
  obtain⟨R',X⟩:=Rel.freeze_ (R.drew) (k:=k) hk (T:=[]) (fun j t h=>by cases h) s.data.toList.length
  rw[eT]
  exact⟨.val (.string s),_,.string ⟨s.data.toList.toArray⟩,C,⟨rfl,rfl⟩,rfl,R',X,.frz (by
   have:(⟨s.data.toList.toArray⟩:ByteArray)=s:=by simp
   rw[this]; exact .val rfl)⟩
end Go.Proofs.YtcgmpcbkndpmbaaGreatDoor

end
