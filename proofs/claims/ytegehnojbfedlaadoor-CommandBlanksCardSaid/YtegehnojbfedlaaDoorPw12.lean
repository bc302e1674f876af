/-
  Code, of values without memory: regions in the order of the text, branches, loops; and that it is sound (regions that draw their order: given as a premise here).
-/
import Derived.Test.YtegehnojbfedlaaDoorPwD
namespace Go.Pw
open Go Go.RowKit
set_option linter.unusedVariables false
set_option linter.unusedSimpArgs false

def guardK (ops : Array Oper) (g : Nat) (st : PS) (K : Option Bool → Prop) : Prop :=
  bindO ((ops[g]?).bind (·.dst)) fun d => bindO (lkp st.env d) fun p => match p with
  | .val (.bool t) => K (some t)
  | .tup [] => K none
  | _ => False
/-- ████ What a function does in its caller's memory: called in a state with args it comes to another one, and hands back a value, as Q says. -/
def OkI (P : Program) (f : FuncId) (args : List PV) (st : PS) (Q : PV → PS → Prop) : Prop :=
  enters P f = true ∧ ∀ (own : Nat → Prop) (S0 : Base) (w0 w : World) (C : Cx) (vals : Array Value), Rel own S0 w0 C (· < st.nx) (· < st.nt) st w → vals.size = args.length →
    (∀ (i : Nat) (v : Value) (p : PV), vals[i]? = some v → args[i]? = some p → RepV C st.toks (· < st.nx) (· < st.nt) v p) →
    Calls P f vals w fun e w' => ∃ r st' v C', Q r st' ∧ e = .returned v ∧ Rel own S0 w0 C' (· < st'.nx) (· < st'.nt) st' w' ∧ Ext C C' st.toks st'.toks (· < st.nx) (· < st.nt) (· < st'.nx) (· < st'.nt) ∧ RepV C' st'.toks (· < st'.nx) (· < st'.nt) v r
/-- A call: of a function with a contract; of one without a body; of one that works in this state's memory (only where the order isn't drawn). -/
inductive CallOk (dr : Bool) (P : Program) (g : FuncId) (as : List PV) (st : PS) (id tk : Nat) (K : PV → PS → Prop) : Prop
  | pure (as' : List PV) (r : PV) (hf : fzAs as = some as') (ok : Ok P g as' r) (k : K r st) : CallOk dr P g as st id tk K
  | ext (vs : List Value) (r : Value) (ha : as = vs.map .val) (hr : ∀ w, (callFunc g vs.toArray).run P w = .ok (.value r) w) (ho : extOk r = true) (k : K (extPV r) st) : CallOk dr P g as st id tk K
  | own (hdr : dr = false) (Q : PV → PS → Prop) (ok : OkI P g as { st with nx := id, nt := tk } Q) (k : ∀ r st', Q r st' → K r { st' with env := st.env }) : CallOk dr P g as st id tk K
/-- Which function a method of a pointer's type is, and how far on its receiver lies. -/
def DispOk (P : Program) (T : TypeId) (m : String) (g : FuncId) (δ : Nat) : Prop :=
  ∀ (b o : Nat) (w : World), (method (P.types.size + Made.depth) T (.pointer (some ⟨b, o, none⟩)) m).run P w = .ok (g, .pointer (some ⟨b, o + δ, none⟩)) w
/-- A method called through an interface that holds a pointer of ours. -/
inductive InvOk (P : Program) (T : TypeId) (m : String) (i off : Nat) (as : List PV) (st : PS) (id tk : Nat) (K : PV → PS → Prop) : Prop
  | mk (g : FuncId) (δ : Nat) (Q : PV → PS → Prop) (hd : DispOk P T m g δ) (ok : OkI P g (.ptr i (off + δ) :: as) { st with nx := id, nt := tk } Q) (k : ∀ r st', Q r st' → K r { st' with env := st.env }) : InvOk P T m i off as st id tk K
def stepN (dr : Bool) (P : Program) (o : Oper) (st : PS) (id tk : Nat) (K : PS → Prop) : Prop :=
  match o.op with
  | .call c => match c.callee with
    | .value f => bindO (st.ev f) fun pf => match pf with
      | .fn g caps => bindO (evAll st c.args.toList) fun as => CallOk dr P g (as ++ caps) st id tk fun p st' => K (st'.put o.dst p)
      | _ => False
    | .invoke x m => bindO (st.ev x) fun p => match p with
      | .iface T (.ptr i off) => bindO (evAll st c.args.toList) fun as => dr = false ∧ InvOk P T m i off as st id tk fun p st' => K (st'.put o.dst p)
      | _ => False
    | _ => stepN0 P o st id tk K
  | _ => stepN0 P o st id tk K
/-- Operations one behind the other; what is made has its number by the place in the region. -/
def dops0 (P : Program) (ops : Array Oper) (nx0 nt0 : Nat) : Nat → List Oper → PS → (PS → Prop) → Prop
  | i, [], st, K => K { st with nx := nx0 + i, nt := nt0 + i }
  | i, o :: r, st, K => match o.guard with
    | none => stepN0 P o st (nx0 + i) (nt0 + i) fun st' => dops0 P ops nx0 nt0 (i + 1) r st' K
    | some (g, b) => guardK ops g st fun t => (t = some b → stepN0 P o st (nx0 + i) (nt0 + i) fun st' => dops0 P ops nx0 nt0 (i + 1) r st' K) ∧ (t ≠ some b → dops0 P ops nx0 nt0 (i + 1) r (st.kill o.dst) K)
/-- The same, where the order is drawn. -/
def dops (P : Program) (ops : Array Oper) (nx0 nt0 : Nat) : Nat → List Oper → PS → (PS → Prop) → Prop
  | i, [], st, K => K { st with nx := nx0 + i, nt := nt0 + i }
  | i, o :: r, st, K => match o.guard with
    | none => stepN true P o st (nx0 + i) (nt0 + i) fun st' => dops P ops nx0 nt0 (i + 1) r st' K
    | some (g, b) => guardK ops g st fun t => (t = some b → stepN true P o st (nx0 + i) (nt0 + i) fun st' => dops P ops nx0 nt0 (i + 1) r st' K) ∧ (t ≠ some b → dops P ops nx0 nt0 (i + 1) r (st.kill o.dst) K)
/-- In the order of the text; the numbers go on from the state's own. -/
def dopsS (P : Program) (ops : Array Oper) : Nat → List Oper → PS → (PS → Prop) → Prop
  | i, [], st, K => K { st with nx := st.nx + i, nt := st.nt + i }
  | i, o :: r, st, K => match o.guard with
    | none => stepN false P o st (st.nx + i) (st.nt + i) fun st' => dopsS P ops (i + 1) r st' K
    | some (g, b) => guardK ops g st fun t => (t = some b → stepN false P o st (st.nx + i) (st.nt + i) fun st' => dopsS P ops (i + 1) r st' K) ∧ (t ≠ some b → dopsS P ops (i + 1) r (st.kill o.dst) K)

/-- Who waits for whom, as bits. -/
def ancs : List Oper → Nat → List Nat → List Nat
  | [], _, acc => acc
  | o :: r, i, acc => ancs r (i + 1) (acc ++ [o.after.toList.foldl (fun m e => if Region.binds .any e then m ||| (1 <<< e.on) ||| acc.getD e.on 0 else m) 0])
def kindOf (o : Oper) : Nat :=
  match o.op with
  | .load _ _ => 1
  | .alloc _ => 2
  | .box _ _ => 2
  | .makeSlice _ _ _ => 2
  | .range _ _ => 2
  | .buildSlice _ _ _ => 2
  | .store _ _ _ => 3
  | .next _ _ => 3
  | .call c => match c.callee with
    | .builtin .append => 4
    | _ => 0
  | _ => 0
def conflict (k l : Nat) : Bool := (k == 3 && (l == 1 || l == 3 || l == 4)) || (l == 3 && (k == 1 || k == 4)) || (k == 4 && l == 4)
def readsOf (ops : Array Oper) (o : Oper) : List Nat :=
  (o.op.operands.toList.filterMap fun | .tmp t => some t | _ => none) ++ (match o.guard with
    | some (g, _) => (((ops[g]?).bind (·.dst)).toList)
    | none => [])
def slotsClash (ops : Array Oper) (x y : Oper) : Bool :=
  (match x.dst with
    | some d => (readsOf ops y).contains d || y.dst == some d
    | none => false) ||
  (match y.dst with
    | some d => (readsOf ops x).contains d
    | none => false)
/-- Whatever isn't ordered doesn't meet. -/
def drawOk (ops : Array Oper) : Bool :=
  let A := ancs ops.toList 0 []
  (List.range ops.size).all fun i => match ops[i]? with
    | none => false
    | some oi => (oi.after.toList.all fun e => !Region.binds .any e || decide (e.on < i)) && (List.range i).all fun j => match ops[j]? with
      | none => false
      | some oj => (A.getD i 0).testBit j || (!conflict (kindOf oi) (kindOf oj) && !slotsClash ops oi oj)
mutual
def PV.lt (a b : Nat) : PV → Bool
  | .val _ => true
  | .sl _ => true
  | .row k _ => decide (k < b)
  | .ptr i _ => decide (i < a)
  | .ms i _ _ _ => decide (i < a)
  | .fp _ => true
  | .agg cs => PV.ltL a b cs
  | .tup cs => PV.ltL a b cs
  | .fn _ cs => PV.ltL a b cs
  | .iface _ p => PV.lt a b p
def PV.ltL (a b : Nat) : List PV → Bool
  | [] => true
  | p :: r => PV.lt a b p && PV.ltL a b r
end
def PObj.lt (a b : Nat) : PObj → Bool
  | .box _ cs => PV.ltL a b cs
  | .iter _ _ => true

/-- Read as frozen: a row or nil as what it holds. -/
def Frz1 : PV → PV → Prop
  | .row _ xs, .sl ys => xs = ys
  | .val v, .sl ys => v = .slice none 0 0 ∧ ys = []
  | p, q => some p = some q
def FrzL : List PV → List PV → Prop
  | [], [] => True
  | p :: r, q :: s => Frz1 p q ∧ FrzL r s
  | _, _ => False
def Frz : PV → PV → Prop
  | .agg l, .agg m => FrzL l m
  | p, q => Frz1 p q
def FrzO : PObj → PObj → Prop
  | .box t cs, .box t' cs' => t = t' ∧ FrzL cs cs'
  | o, o' => some o = some o'
theorem Frz1.refl (p : PV) : Frz1 p p := by
  unfold Frz1; split <;> simp_all
theorem FrzL.refl : ∀ l, FrzL l l
  | [] => trivial
  | p :: r => ⟨Frz1.refl p, FrzL.refl r⟩
theorem Frz.refl (p : PV) : Frz p p := by
  unfold Frz; split
  · exact FrzL.refl _
  · exact Frz1.refl _
theorem FrzO.refl (o : PObj) : FrzO o o := by
  cases o with
  | box t cs => exact ⟨rfl, FrzL.refl _⟩
  | iter s pos => rfl
theorem Frz1.rep {C : Cx} {T : List (Nat × Tok)} {U V : Nat → Prop} {v : Value} {p q : PV} (h : Frz1 p q) (r : RepV C T U V v p) : RepV C T U V v q := by
  unfold Frz1 at h
  split at h
  · subst h; exact .frz (rep_sl (.inr ⟨_, r⟩))
  · obtain ⟨rfl, rfl⟩ := h
    obtain ⟨rfl, _⟩ := rep_val r
    exact .frz (.sl (sz := 0) (fun _ _ => .nilIface) rfl (Nat.le_refl _) (by simp) (by simp) (by simp))
  · obtain rfl := Option.some.inj h; exact r
theorem FrzL.len : ∀ {l m : List PV}, FrzL l m → l.length = m.length
  | [], [], _ => rfl
  | _ :: _, _ :: _, h => by simp [FrzL.len h.2]
  | [], _ :: _, h => h.elim
  | _ :: _, [], h => h.elim
theorem FrzL.get : ∀ {l m : List PV}, FrzL l m → ∀ (i : Nat) (p q : PV), l[i]? = some p → m[i]? = some q → Frz1 p q
  | [], [], _, i, p, q, h, _ => by simp at h
  | a :: l, b :: m, h, 0, p, q, hp, hq => by simp at hp hq; subst hp hq; exact h.1
  | a :: l, b :: m, h, i + 1, p, q, hp, hq => FrzL.get h.2 i p q (by simpa using hp) (by simpa using hq)
  | [], _ :: _, h, _, _, _, _, _ => h.elim
  | _ :: _, [], h, _, _, _, _, _ => h.elim
theorem Frz.rep {C : Cx} {T : List (Nat × Tok)} {U V : Nat → Prop} {v : Value} {p q : PV} (h : Frz p q) (r : RepV C T U V v p) : RepV C T U V v q := by
  unfold Frz at h
  split at h
  · rename_i l m
    cases r with
    | frz r => cases r
    | agg hs hr h1 =>
      refine .agg (hs.trans h.len) (fun i v p hv hp => ?_) h1
      have hi : i < l.length := by rw [← hs]; exact (Array.getElem?_eq_some_iff.1 hv).1
      exact (h.get i _ p (List.getElem?_eq_getElem hi) hp).rep (hr i v _ hv (List.getElem?_eq_getElem hi))
  · exact h.rep r

/-- What may be forgotten. -/
structure Weak (L : Nat × Nat) (st st' : PS) : Prop where
  env : ∀ e ∈ st'.env, bindO (lkp st.env e.1) (fun q => Frz q e.2) ∧ e.2.lt st'.nx st'.nt = true
  heap : ∀ e ∈ st'.heap, bindO (lkp st.heap e.1) (fun q => FrzO q e.2) ∧ e.1 < st'.nx ∧ e.2.lt st'.nx st'.nt = true
  toks : ∀ e ∈ st'.toks, lkp st.toks e.1 = some e.2 ∧ e.1 < st'.nt
  nx : st'.nx ≤ st.nx
  nt : st'.nt ≤ st.nt
  lx : L.1 ≤ st'.nx
  lt : L.2 ≤ st'.nt

/-- A call that all wait for, or that waits for them. -/
def barOk (ops : Array Oper) (k : Nat) : Bool :=
  let A := ancs ops.toList 0 []
  (match ops[k]? with
    | some o => o.guard.isNone
    | none => false) && ((List.range ops.size).all fun i => i == k || (if i < k then (A.getD k 0).testBit i else (A.getD i 0).testBit k))
/-- The same, where the order is drawn, but all is ordered with the k-th one. -/
def dopsB (P : Program) (ops : Array Oper) (l : List Oper) (k : Nat) (st : PS) (K : PS → Prop) : Prop :=
  dops P ops st.nx st.nt 0 (l.take k) st fun s => dopsS P ops 0 ((l.drop k).take 1) s fun s' => dops P ops s'.nx s'.nt (k + 1) (l.drop (k + 1)) s' K
/-- What a reading of code may forget at most; which regions are cut, and where. -/
structure Lim where
  l : Nat × Nat
  bar : Nat → Option Nat
abbrev noBar : Nat → Option Nat := fun _ => none
/-- Region r is cut at its k-th operation. -/
def oneBar (r k : Nat) : Nat → Option Nat := fun i => if i = r then some k else none
/-- A region that draws its order, place by place: the states that any order comes through, each with who is listed. -/
def expl (P : Program) (ops : Array Oper) (l : Nat × Nat) (st : PS) (K : PS → Prop) : Prop :=
  ∃ (ι : Type) (I : ι → PS) (B : ι → Array Bool) (m : ι → Nat) (i0 : ι), Weak l st (I i0) ∧ B i0 = Array.replicate ops.size false ∧ m i0 ≤ ops.size ∧
    ∀ i, (Region.ready .any ops (B i) = [] → K (I i)) ∧ (m i = 0 → Region.ready .any ops (B i) = []) ∧
      ∀ k ∈ Region.ready .any ops (B i), bindO ops[k]? fun o => dopsS P ops 0 [o] (I i) fun s' => ∃ j, m j < m i ∧ B j = (B i).setIfInBounds k true ∧ Weak l s' (I j)
/-- ████ Code, of values without memory. -/
def pwp (P : Program) (L : Lim) : Code → PS → (Exit → PS → Prop) → Prop
  | .skip, st, Q => Q .normal st
  | .label _, st, Q => Q .normal st
  | .region id ops true, st, Q => match L.bar id with
    | none => dops P ops st.nx st.nt 0 ops.toList st (Q .normal)
    | some k => if k < ops.size then barOk ops k = true ∧ dopsB P ops ops.toList k st (Q .normal) else expl P ops L.l st (Q .normal)
  | .region _ ops false, st, Q => dopsS P ops 0 ops.toList st (Q .normal)
  | .seq a b, st, Q => pwp P L a st fun x st' => match x with
    | .normal => pwp P L b st' Q
    | x => Q x st'
  | .cond c t e, st, Q => bindO (st.ev c) fun p => match p with
    | .val (.bool b) => (b = true → pwp P L t st Q) ∧ (b = false → pwp P L e st Q)
    | _ => False
  | .block id c, st, Q => pwp P L c st fun x st' => match x with
    | .exit i => if i = id then Q .normal st' else Q (.exit i) st'
    | x => Q x st'
  | .loop c, st, Q => ∃ (ι : Type) (I : ι → PS) (m : ι → Nat) (i0 : ι), Weak L.l st (I i0) ∧ ∀ i, pwp P L c (I i) fun x st' => match x with
    | .normal => ∃ j, m j < m i ∧ Weak L.l st' (I j)
    | x => Q x st'
  | .scope c, st, Q => pwp P L c st fun x st' => match x with
    | .goto _ => False
    | x => Q x st'
  | .exit id, st, Q => Q (.exit id) st
  | .ret, st, Q => Q .ret st
  | _, _, _ => False

/-- All slots lie in the frame; in regions that draw their order, whatever isn't ordered doesn't meet. -/
def fitsC (N : Nat) : Code → Bool
  | .region _ ops draw => (ops.toList.all fun o => fitsDst N o.dst) && (!draw || drawOk ops)
  | .seq a b => fitsC N a && fitsC N b
  | .cond _ a b => fitsC N a && fitsC N b
  | .block _ c => fitsC N c
  | .loop c => fitsC N c
  | .scope c => fitsC N c
  | _ => true

section
variable {P : Program} {own : Nat → Prop} {S0 : Base} {w0 w : World} {C : Cx} {st : PS} {a : Act} {N : Nat}

theorem ltL_get {a b : Nat} : ∀ {cs : List PV}, PV.ltL a b cs = true → ∀ p ∈ cs, p.lt a b = true
  | [], _, p, hp => by cases hp
  | q :: r, h, p, hp => by
    simp only [PV.ltL, Bool.and_eq_true] at h
    rcases List.mem_cons.1 hp with rfl | hp
    · exact h.1
    · exact ltL_get h.2 p hp
theorem RepV.lower {T T' : List (Nat × Tok)} {U V U' V' : Nat → Prop} {a b : Nat} (hT : ∀ k t, lkp T' k = some t → lkp T k = some t) (hU : ∀ i, i < a → U' i) (hV : ∀ i, i < b → V' i) {v : Value} {p : PV} (r : RepV C T U V v p) :
    p.lt a b = true → RepV C T' U' V' v p := by
  induction r with
  | frz h => exact fun _ => .frz h
  | row h hk ht =>
    intro hl
    simp only [PV.lt, decide_eq_true_eq] at hl
    exact .row h (hV _ hl) (fun t h' => ht t (hT _ t h'))
  | ptr h => intro hl; simp only [PV.lt, decide_eq_true_eq] at hl; exact .ptr (hU _ hl)
  | ms h hc => intro hl; simp only [PV.lt, decide_eq_true_eq] at hl; exact .ms (hU _ hl) hc
  | fp h => exact fun _ => .fp h
  | agg hs h h1 ih => intro hl; exact .agg hs (fun i v p hv hp => ih i v p hv hp (ltL_get hl p (List.mem_of_getElem? hp))) h1
  | tup hs h ih => intro hl; exact .tup hs (fun i v p hv hp => ih i v p hv hp (ltL_get hl p (List.mem_of_getElem? hp)))
  | fn hs h ih => intro hl; exact .fn hs (fun i v p hv hp => ih i v p hv hp (ltL_get hl p (List.mem_of_getElem? hp)))
  | iface h ih => intro hl; exact .iface (ih hl)
theorem lkp_mem {α : Type} : ∀ {l : List (Nat × α)} {i : Nat} {v : α}, lkp l i = some v → (i, v) ∈ l
  | [], i, v, h => by simp [lkp] at h
  | (k, u) :: r, i, v, h => by
    rw [lkp_cons] at h
    split at h
    · obtain rfl := Option.some.inj h
      rename_i e
      subst e
      simp
    · exact List.mem_cons_of_mem _ (lkp_mem h)

/-- The state, in the call's own numbers. -/
abbrev Stt (own : Nat → Prop) (S0 : Base) (w0 : World) (N : Nat) (st : PS) (a : Act) (w : World) : Prop := StN own S0 w0 N (· < st.nx) (· < st.nt) st a w
theorem Stt.weak {st' : PS} {L : Nat × Nat} (hL : (∀ i, S0.U i → i < L.1) ∧ ∀ i, S0.V i → i < L.2) (h : Stt own S0 w0 N st a w) (k : Weak L st st') : Stt own S0 w0 N st' a w := by
  obtain ⟨h1, h2, C, R, E⟩ := h
  have hT : ∀ i t, lkp st'.toks i = some t → lkp st.toks i = some t := fun i t h => (k.toks _ (lkp_mem h)).1
  refine ⟨h1, h2, C, ⟨R.frame, R.stable, ?_, ?_, ?_, ?_, ?_, ?_, ?_, R.snew, R.sold, ⟨R.base.S, R.base.ρ, fun i t hi ht => R.base.tok i t hi (hT i t ht), fun i hi => Nat.lt_of_lt_of_le (hL.1 i hi) k.lx, fun i hi => Nat.lt_of_lt_of_le (hL.2 i hi) k.lt⟩, R.glob⟩, ?_⟩
  · intro id T cs h
    obtain ⟨g1, g2, g3⟩ := k.heap _ (lkp_mem h)
    obtain ⟨q, g1, gq⟩ := bindO_elim g1
    cases q with
    | iter s pos => cases gq
    | box T' cs' =>
      obtain ⟨rfl, gl⟩ := gq
      obtain ⟨vs, e1, e2, e3⟩ := R.box id T' cs' g1
      refine ⟨vs, e1, e2.trans gl.len, fun i v p hv hp => ?_⟩
      have hi : i < cs'.length := by rw [← e2]; exact (Array.getElem?_eq_some_iff.1 hv).1
      have hq := List.getElem?_eq_getElem hi
      exact ⟨(e3 i v _ hv hq).1, ((gl.get i _ p hq hp).rep (e3 i v _ hv hq).2).lower hT (fun _ h => h) (fun _ h => h) (ltL_get g3 p (List.mem_of_getElem? hp))⟩
  · intro id s pos h
    obtain ⟨q, g1, gq⟩ := bindO_elim (k.heap _ (lkp_mem h)).1
    cases q with
    | box t cs => cases gq
    | iter s' pos' =>
      have e : PObj.iter s' pos' = PObj.iter s pos := Option.some.inj gq
      rw [e] at g1
      exact R.iter id _ _ g1
  · intro id o h
    obtain ⟨g1, g2, g3⟩ := k.heap _ (lkp_mem h)
    obtain ⟨q, g1, gq⟩ := bindO_elim g1
    exact ⟨g2, (R.hown id q g1).2⟩
  · intro i j oi oj g1 g2
    obtain ⟨q, g1, _⟩ := bindO_elim (k.heap _ (lkp_mem g1)).1
    obtain ⟨q', g2, _⟩ := bindO_elim (k.heap _ (lkp_mem g2)).1
    exact R.hinj i j q q' g1 g2
  · intro i t h
    obtain ⟨g1, g2⟩ := k.toks _ (lkp_mem h)
    exact ⟨g2, (R.tok i t g1).2⟩
  · intro i oi j t g1 g2
    obtain ⟨q, g1, _⟩ := bindO_elim (k.heap _ (lkp_mem g1)).1
    exact R.tbox i q j t g1 (k.toks _ (lkp_mem g2)).1
  · intro i j ti tj g1 g2
    exact R.tinj i j ti tj (k.toks _ (lkp_mem g1)).1 (k.toks _ (lkp_mem g2)).1
  · intro t p h
    obtain ⟨g1, g2⟩ := k.env _ (lkp_mem h)
    obtain ⟨q, g1, gq⟩ := bindO_elim g1
    obtain ⟨v, e1, e2⟩ := E t q g1
    exact ⟨v, e1, (gq.rep e2).lower hT (fun _ h => h) (fun _ h => h) g2⟩

def liftN (own : Nat → Prop) (S0 : Base) (w0 : World) (N : Nat) (Q : Exit → PS → Prop) : Exit → Act → World → Prop := fun x a w => ∃ st, Q x st ∧ Stt own S0 w0 N st a w

theorem guard_sound {U V : Nat → Prop} {ops : Array Oper} {g : Nat} {K : Option Bool → Prop} (h : StN own S0 w0 N U V st a w) (k : guardK ops g st K) : ∃ t, yielded ops a.tmps g = t ∧ K t := by
  obtain ⟨h1, h2, C, R, E⟩ := h
  unfold guardK at k
  replace k := bindO_elim k
  obtain ⟨d, hd, k⟩ := k
  replace k := bindO_elim k
  obtain ⟨p, hp, k⟩ := k
  split at k
  · rename_i t
    obtain ⟨v, hv, r⟩ := E d _ hp
    obtain ⟨rfl, _⟩ := rep_val r
    exact ⟨some t, by simp [yielded, hd, hv], k⟩
  · obtain ⟨v, hv, r⟩ := E d _ hp
    obtain ⟨vs, rfl, _⟩ := rep_tup r
    exact ⟨none, by simp [yielded, hd, hv], k⟩
  · exact k.elim
theorem StN.kill {U V : Nat → Prop} (h : StN own S0 w0 N U V st a w) (d : Option Tmp) (hf : fitsDst N d = true) : StN own S0 w0 N U V (st.kill d) (a.put d undef) w := by
  obtain ⟨h1, h2, C, R, E⟩ := h
  exact StN.of_kill (d := d) h1 h2 hf R E
theorem StN.wide {U V U' V' : Nat → Prop} (h : StN own S0 w0 N U V st a w) (hU : ∀ i, U i → U' i) (hV : ∀ i, V i → V' i) : StN own S0 w0 N U' V' st a w := by
  obtain ⟨h1, h2, C, R, E⟩ := h
  have X : Ext C C st.toks st.toks U V U' V' := ⟨SLe.refl _, fun _ _ => rfl, fun k t _ h => ⟨t, h, Nat.le_refl _, rfl, fun _ => rfl⟩, hU, hV⟩
  exact ⟨h1, h2, C, R.wide hU hV, E.ext X rfl⟩
theorem StN.nxnt {U V : Nat → Prop} (h : StN own S0 w0 N U V st a w) (x y : Nat) : StN own S0 w0 N U V { st with nx := x, nt := y } a w := by
  obtain ⟨h1, h2, C, R, E⟩ := h
  exact ⟨h1, h2, C, R.nxnt x y, E⟩

theorem Rel.env_ {U V : Nat → Prop} (R : Rel own S0 w0 C U V st w) (e : List (Nat × PV)) : Rel own S0 w0 C U V { st with env := e } w := ⟨R.frame, R.stable, R.box, R.iter, R.hown, R.hinj, R.tok, R.tbox, R.tinj, R.snew, R.sold, R.base, R.glob⟩
theorem apply_nx (d : Delta) (x : Option Tmp) : (d.apply x st).nx = st.nx := by
  unfold Delta.apply PS.kill
  cases d.res <;> simp only [put_nx]
theorem apply_nt (d : Delta) (x : Option Tmp) : (d.apply x st).nt = st.nt := by
  unfold Delta.apply PS.kill
  cases d.res <;> simp only [put_nt]
theorem stepN0_keep {o : Oper} {id tk : Nat} {K : PS → Prop} (h : stepN0 P o st id tk K) : stepN0 P o st id tk (fun s => K s ∧ s.nx = st.nx ∧ s.nt = st.nt) :=
  stepD_det.mono (fun d hd => ⟨hd, apply_nx d _, apply_nt d _⟩) h
theorem callP_of {dr : Bool} {g : FuncId} {as : List PV} {id tk : Nat} {K : PV → PS → Prop} (h : CallOk dr P g as st id tk K) : CallP P g as (fun p => K p st) ∨ (dr = false ∧ ∃ Q, OkI P g as { st with nx := id, nt := tk } Q ∧ ∀ r st', Q r st' → K r { st' with env := st.env }) := by
  cases h with
  | pure as' r hf ok k => exact .inl (.pure as' r hf ok k)
  | ext vs r ha hr ho k => exact .inl (.ext vs r ha hr ho k)
  | own hdr Q ok k => exact .inr ⟨hdr, Q, ok, k⟩
theorem stepN_true {o : Oper} {id tk : Nat} {K : PS → Prop} (h : stepN true P o st id tk K) : stepN0 P o st id tk K := by
  unfold stepN at h
  split at h
  · rename_i c ho
    split at h
    · rename_i f hc
      unfold stepN0 stepD
      rw [ho]
      simp only [hc, callK]
      replace h := bindO_elim h
      obtain ⟨pf, hpf, h⟩ := h
      rw [hpf, bindO_some]
      split at h
      · replace h := bindO_elim h
        obtain ⟨as, has, h⟩ := h
        simp only
        rw [has, bindO_some]
        rcases callP_of h with h | ⟨h, _⟩
        · exact h
        · cases h
      · exact h.elim
    · exfalso
      replace h := bindO_elim h
      obtain ⟨p, _, h⟩ := h
      split at h
      · replace h := bindO_elim h
        obtain ⟨as, _, h, _⟩ := h
        cases h
      · exact h
    · exact h
  · exact h
theorem dops_dops0 {ops : Array Oper} {nx0 nt0 : Nat} {K : PS → Prop} : ∀ (l : List Oper) (i : Nat) (st : PS), dops P ops nx0 nt0 i l st K → dops0 P ops nx0 nt0 i l st K
  | [], i, st, h => h
  | o :: r, i, st, h => by
    simp only [dops] at h
    simp only [dops0]
    cases hg : o.guard with
    | none => rw [hg] at h; exact stepD_det.mono (fun d hd => dops_dops0 r _ _ hd) (stepN_true h)
    | some gb =>
      obtain ⟨g, b⟩ := gb
      rw [hg] at h
      simp only at h ⊢
      unfold guardK at h ⊢
      replace h := bindO_elim h
      obtain ⟨d, hd, h⟩ := h
      rw [hd, bindO_some]
      replace h := bindO_elim h
      obtain ⟨p, hp, h⟩ := h
      rw [hp, bindO_some]
      split at h
      · exact ⟨fun e => stepD_det.mono (fun d hd => dops_dops0 r _ _ hd) (stepN_true (h.1 e)), fun e => dops_dops0 r _ _ (h.2 e)⟩
      · exact ⟨fun e => stepD_det.mono (fun d hd => dops_dops0 r _ _ hd) (stepN_true (h.1 e)), fun e => dops_dops0 r _ _ (h.2 e)⟩
      · exact h.elim
theorem stepS_sound {o : Oper} {i : Nat} {K : PS → Prop} (E : Env C (· < st.nx + i) (· < st.nt + i) st a) (R : Rel own S0 w0 C (· < st.nx + i) (· < st.nt + i) st w) (hd : a.defers = []) (hs : a.tmps.size = N) (hf : fitsDst N o.dst = true)
    (h : stepN false P o st (st.nx + i) (st.nt + i) K) {Q : Exit → Act → World → Prop} : Oper.wp P o a w (fun a' w' => ∃ st', K st' ∧ StN own S0 w0 N (· < st'.nx + (i + 1)) (· < st'.nt + (i + 1)) st' a' w') Q := by
  have plain : ∀ {K : PS → Prop}, stepN0 P o st (st.nx + i) (st.nt + i) K → Oper.wp P o a w (fun a' w' => ∃ st', K st' ∧ StN own S0 w0 N (· < st'.nx + (i + 1)) (· < st'.nt + (i + 1)) st' a' w') Q := fun h => by
    refine Oper.wp_mono ?_ (stepN_sound (U' := (· < st.nx + (i + 1))) (V' := (· < st.nt + (i + 1))) E R hd hs hf (fun j hj => by omega) (fun j hj => by omega) (fun _ => ⟨Nat.lt_irrefl _, by omega⟩) (fun _ => ⟨Nat.lt_irrefl _, by omega⟩) (stepN0_keep h))
    rintro a' w' ⟨st', ⟨hk, e1, e2⟩, hS⟩
    exact ⟨st', hk, by rw [e1, e2]; exact hS⟩
  unfold stepN at h
  split at h
  · rename_i c ho
    split at h
    · rename_i f hc
      have h0 := h
      replace h := bindO_elim h
      obtain ⟨pf, hpf, h⟩ := h
      split at h
      · rename_i g caps
        replace h := bindO_elim h
        obtain ⟨as, has, h⟩ := h
        rcases callP_of h with h | ⟨_, QI, ok, k⟩
        · refine plain ?_
          unfold stepN0 stepD
          rw [ho]
          simp only [hc, callK]
          rw [hpf, bindO_some]
          simp only
          rw [has, bindO_some]
          exact h
        · obtain ⟨vs, ef, hcs, hcr⟩ := rep_fn (ev_rep E hpf)
          obtain ⟨ha1, ha2⟩ := evAll_rep E _ _ has
          have hall : ∀ (i' : Nat) (v : Value) (p : PV), (c.args.map a.eval ++ vs)[i']? = some v → (as ++ caps)[i']? = some p → RepV C st.toks (· < st.nx + i) (· < st.nt + i) v p := by
            intro i' v p hv hp
            have hal : (c.args.map a.eval).size = as.length := by simpa using ha1
            by_cases hi : i' < as.length
            · rw [List.getElem?_append_left hi] at hp
              rw [Array.getElem?_append_left (by omega)] at hv
              exact ha2 i' v p (by simpa using hv) hp
            · rw [List.getElem?_append_right (by omega)] at hp
              rw [Array.getElem?_append_right (by omega)] at hv
              exact hcr _ v p (by rw [hal] at hv; exact hv) hp
          have hsz : (c.args.map a.eval ++ vs).size = (as ++ caps).length := by
            have : c.args.size = as.length := by simpa using ha1
            simp [this, hcs]
          obtain ⟨hent, ok⟩ := ok
          have hrun : (execOp a.eval o).run P w = .ok (.enter g (c.args.map a.eval ++ vs)) w := by
            have hcf := run_callFunc hent (c.args.map a.eval ++ vs) w
            simp only [execOp, ho, Sem.run_bind, resolve, hc, ef, Deferred.ofValue, Sem.run_pure, Result.andThen_ok, invoke]
            simpa using hcf
          unfold Oper.wp
          rw [hrun, Oper.upon_enter]
          refine (ok own S0 w0 w C _ (R.nxnt _ _) hsz hall).mono ?_
          rintro e w' ⟨r, st2, v, C', hQ, rfl, R', X, hr⟩
          have X2 : Ext C C' st.toks st2.toks (· < st.nx + i) (· < st.nt + i) (· < st2.nx + (i + 1)) (· < st2.nt + (i + 1)) := (X.wider (fun j hj => by omega)).wideU (fun j hj => by omega)
          have R2 := (R'.wide (U' := (· < st2.nx + (i + 1))) (V' := (· < st2.nt + (i + 1))) (fun j hj => by omega) (fun j hj => by omega)).env_ st.env
          have hr2 : RepV C' st2.toks (· < st2.nx + (i + 1)) (· < st2.nt + (i + 1)) v r := hr.ext ⟨SLe.refl _, fun _ _ => rfl, fun k t _ h => ⟨t, h, Nat.le_refl _, rfl, fun _ => rfl⟩, fun j hj => by omega, fun j hj => by omega⟩
          have := StN.of_put (d := o.dst) (st' := { st2 with env := st.env }) hd hs hf R2 (E.ext X2 rfl) hr2
          exact ⟨_, k r st2 hQ, by rw [put_nx, put_nt]; exact this⟩
      · exact h.elim
    · rename_i x m hc
      replace h := bindO_elim h
      obtain ⟨pf, hpf, h⟩ := h
      split at h
      · rename_i T id off
        replace h := bindO_elim h
        obtain ⟨as, has, _, h⟩ := h
        cases h with
        | mk g δ QI hdi ok k =>
        obtain ⟨u, ef, hu⟩ := rep_iface (ev_rep E hpf)
        obtain ⟨eu, hid⟩ := rep_ptr hu
        subst eu
        obtain ⟨ha1, ha2⟩ := evAll_rep E _ _ has
        have hall : ∀ (i' : Nat) (v : Value) (p : PV), (#[Value.pointer (some ⟨C.ρ id, off + δ, none⟩)] ++ c.args.map a.eval)[i']? = some v → (.ptr id (off + δ) :: as)[i']? = some p → RepV C st.toks (· < st.nx + i) (· < st.nt + i) v p := by
          intro i' v p hv hp
          cases i' with
          | zero =>
            have hp' : PV.ptr id (off + δ) = p := Option.some.inj hp
            rw [Array.getElem?_append_left (by simp)] at hv
            have hv' : Value.pointer (some ⟨C.ρ id, off + δ, none⟩) = v := Option.some.inj hv
            rw [← hp', ← hv']
            exact .ptr hid
          | succ j =>
            have hp' : as[j]? = some p := by simpa using hp
            have hv' : (c.args.map a.eval)[j]? = some v := by
              rw [Array.getElem?_append_right (by simp)] at hv
              simpa using hv
            exact ha2 j v p (by simpa using hv') hp'
        have hsz : (#[Value.pointer (some ⟨C.ρ id, off + δ, none⟩)] ++ c.args.map a.eval).size = (PV.ptr id (off + δ) :: as).length := by
          have : c.args.size = as.length := by simpa using ha1
          simp [this]; omega
        obtain ⟨hent, ok⟩ := ok
        have hrun : (execOp a.eval o).run P w = .ok (.enter g (#[Value.pointer (some ⟨C.ρ id, off + δ, none⟩)] ++ c.args.map a.eval)) w := by
          have hcf := run_callFunc hent (#[Value.pointer (some ⟨C.ρ id, off + δ, none⟩)] ++ c.args.map a.eval) w
          have hx : ∀ (u : Value) (A : Array Value), (#[u] ++ A)[0]? = some u := fun u A => by rw [Array.getElem?_append_left (by simp)]; rfl
          have hr : ∀ (u : Value) (A : Array Value), (#[u] ++ A).extract 1 (#[u] ++ A).size = A := fun u A => by apply Array.toList_inj.1; simp
          have hme := hdi (C.ρ id) off w
          simp only [execOp, ho, Sem.run_bind, resolve, hc, Sem.run_pure, Result.andThen_ok, invoke, ef, hx, hr, callMethod, run_program, hme]
          exact hcf
        unfold Oper.wp
        rw [hrun, Oper.upon_enter]
        refine (ok own S0 w0 w C _ (R.nxnt _ _) hsz hall).mono ?_
        rintro e w' ⟨r, st2, v, C', hQ, rfl, R', X, hr⟩
        have X2 : Ext C C' st.toks st2.toks (· < st.nx + i) (· < st.nt + i) (· < st2.nx + (i + 1)) (· < st2.nt + (i + 1)) := (X.wider (fun j hj => by omega)).wideU (fun j hj => by omega)
        have R2 := (R'.wide (U' := (· < st2.nx + (i + 1))) (V' := (· < st2.nt + (i + 1))) (fun j hj => by omega) (fun j hj => by omega)).env_ st.env
        have hr2 : RepV C' st2.toks (· < st2.nx + (i + 1)) (· < st2.nt + (i + 1)) v r := hr.ext ⟨SLe.refl _, fun _ _ => rfl, fun k t _ h => ⟨t, h, Nat.le_refl _, rfl, fun _ => rfl⟩, fun j hj => by omega, fun j hj => by omega⟩
        have := StN.of_put (d := o.dst) (st' := { st2 with env := st.env }) hd hs hf R2 (E.ext X2 rfl) hr2
        exact ⟨_, k r st2 hQ, by rw [put_nx, put_nt]; exact this⟩
      · exact h.elim
    · exact plain h
  · exact plain h
theorem dopsS_sound {ops : Array Oper} {Q : Exit → PS → Prop} : ∀ (l : List Oper) (i : Nat) (st : PS) (a : Act) (w : World), (l.all fun o => fitsDst N o.dst) = true → dopsS P ops i l st (Q .normal) →
    StN own S0 w0 N (· < st.nx + i) (· < st.nt + i) st a w → wpList P ops (liftN own S0 w0 N Q) l a w
  | [], i, st, a, w, _, k, h => wpList_nil ⟨_, k, h.nxnt (st.nx + i) (st.nt + i)⟩
  | o :: r, i, st, a, w, hf, k, h => by
    simp only [List.all_cons, Bool.and_eq_true] at hf
    refine wpList_step (fun K hK => ?_)
    simp only [dopsS] at k
    have step : stepN false P o st (st.nx + i) (st.nt + i) (fun st' => dopsS P ops (i + 1) r st' (Q .normal)) → o.wp P a w K (liftN own S0 w0 N Q) := fun k => by
      obtain ⟨h1, h2, C, R, E⟩ := h
      exact Oper.wp_mono (fun a' w' ⟨st', hk, hs⟩ => hK a' w' (dopsS_sound r (i + 1) st' a' w' hf.2 hk hs)) (stepS_sound E R h1 h2 hf.1 k)
    have skip : dopsS P ops (i + 1) r (st.kill o.dst) (Q .normal) → K (a.put o.dst undef) w := fun k => by
      refine hK _ _ (dopsS_sound r (i + 1) _ _ w hf.2 k ?_)
      have := (h.kill o.dst hf.1).wide (U' := (· < st.nx + (i + 1))) (V' := (· < st.nt + (i + 1))) (fun j hj => by omega) (fun j hj => by omega)
      unfold PS.kill
      rw [put_nx, put_nt]
      exact this
    cases hg : o.guard with
    | none =>
      rw [hg] at k
      simp only [Region.wanted, hg, if_true]
      exact step k
    | some gb =>
      obtain ⟨g, b⟩ := gb
      rw [hg] at k
      simp only at k
      obtain ⟨t, ht, k1, k2⟩ := guard_sound h k
      by_cases htb : t = some b
      · have : Region.wanted o (yielded ops a.tmps) = true := by simp [Region.wanted, hg, ht, htb]
        rw [if_pos this]
        exact step (k1 htb)
      · have : Region.wanted o (yielded ops a.tmps) = false := by simp [Region.wanted, hg, ht, htb]
        rw [this]
        simp only [Bool.false_eq_true, if_false]
        exact skip (k2 htb)
end
end Go.Pw
