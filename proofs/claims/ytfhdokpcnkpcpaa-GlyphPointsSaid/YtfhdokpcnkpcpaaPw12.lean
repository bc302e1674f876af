/-
  Code, of values without memory: regions in the order of the text, branches, loops; and that it is sound (regions that draw their order: given as a premise here).
-/
import Derived.Test.YtfhdokpcnkpcpaaPwD
namespace Go.Pw
open Go Go.RowKit
set_option linter.unusedVariables false
set_option linter.unusedSimpArgs false

def guardK (ops : Array Oper) (g : Nat) (st : PS) (K : Option Bool → Prop) : Prop :=
  bindO ((ops[g]?).bind (·.dst)) fun d => bindO (lkp st.env d) fun p => match p with
  | .val (.bool t) => K (some t)
  | .tup [] => K none
  | _ => False
/-- Operations one behind the other; what is made has its number by the place in the region. -/
def dops (P : Program) (ops : Array Oper) (nx0 nt0 : Nat) : Nat → List Oper → PS → (PS → Prop) → Prop
  | i, [], st, K => K { st with nx := nx0 + i, nt := nt0 + i }
  | i, o :: r, st, K => match o.guard with
    | none => stepN P o st (nx0 + i) (nt0 + i) fun st' => dops P ops nx0 nt0 (i + 1) r st' K
    | some (g, b) => guardK ops g st fun t => (t = some b → stepN P o st (nx0 + i) (nt0 + i) fun st' => dops P ops nx0 nt0 (i + 1) r st' K) ∧ (t ≠ some b → dops P ops nx0 nt0 (i + 1) r (st.kill o.dst) K)

/-- Who waits for whom, as bits. -/
def ancs : List Oper → Nat → List Nat → List Nat
  | [], _, acc => acc
  | o :: r, i, acc => ancs r (i + 1) (acc ++ [o.after.toList.foldl (fun m e => if Region.binds .any e then m ||| (1 <<< e.on) ||| acc.getD e.on 0 else m) 0])
def kindOf (o : Oper) : Nat :=
  match o.op with
  | .load _ _ => 1
  | .alloc _ => 2
  | .box _ _ => 2
  | .makeSlice _ _ _ => 2
  | .range _ _ => 2
  | .buildSlice _ _ _ => 2
  | .store _ _ _ => 3
  | .next _ _ => 3
  | .call c => match c.callee with
    | .builtin .append => 4
    | _ => 0
  | _ => 0
def conflict (k l : Nat) : Bool := (k == 3 && (l == 1 || l == 3 || l == 4)) || (l == 3 && (k == 1 || k == 4)) || (k == 4 && l == 4)
def readsOf (ops : Array Oper) (o : Oper) : List Nat :=
  (o.op.operands.toList.filterMap fun | .tmp t => some t | _ => none) ++ (match o.guard with
    | some (g, _) => (((ops[g]?).bind (·.dst)).toList)
    | none => [])
def slotsClash (ops : Array Oper) (x y : Oper) : Bool :=
  (match x.dst with
    | some d => (readsOf ops y).contains d || y.dst == some d
    | none => false) ||
  (match y.dst with
    | some d => (readsOf ops x).contains d
    | none => false)
/-- Whatever isn't ordered doesn't meet. -/
def drawOk (ops : Array Oper) : Bool :=
  let A := ancs ops.toList 0 []
  (List.range ops.size).all fun i => match ops[i]? with
    | none => false
    | some oi => (oi.after.toList.all fun e => !Region.binds .any e || decide (e.on < i)) && (List.range i).all fun j => match ops[j]? with
      | none => false
      | some oj => (A.getD i 0).testBit j || (!conflict (kindOf oi) (kindOf oj) && !slotsClash ops oi oj)
mutual
def PV.lt (a b : Nat) : PV → Bool
  | .val _ => true
  | .sl _ => true
  | .row k _ => decide (k < b)
  | .ptr i _ => decide (i < a)
  | .ms i _ _ _ => decide (i < a)
  | .fp _ => true
  | .agg cs => PV.ltL a b cs
  | .tup cs => PV.ltL a b cs
  | .fn _ cs => PV.ltL a b cs
def PV.ltL (a b : Nat) : List PV → Bool
  | [] => true
  | p :: r => PV.lt a b p && PV.ltL a b r
end
def PObj.lt (a b : Nat) : PObj → Bool
  | .box _ cs => PV.ltL a b cs
  | .iter _ _ => true

/-- What may be forgotten. -/
structure Weak (st st' : PS) : Prop where
  env : ∀ e ∈ st'.env, lkp st.env e.1 = some e.2 ∧ e.2.lt st'.nx st'.nt = true
  heap : ∀ e ∈ st'.heap, lkp st.heap e.1 = some e.2 ∧ e.1 < st'.nx ∧ e.2.lt st'.nx st'.nt = true
  toks : ∀ e ∈ st'.toks, lkp st.toks e.1 = some e.2 ∧ e.1 < st'.nt
  nx : st'.nx ≤ st.nx
  nt : st'.nt ≤ st.nt

/-- ████ Code, of values without memory. -/
def pwp (P : Program) : Code → PS → (Exit → PS → Prop) → Prop
  | .skip, st, Q => Q .normal st
  | .label _, st, Q => Q .normal st
  | .region _ ops _, st, Q => dops P ops st.nx st.nt 0 ops.toList st (Q .normal)
  | .seq a b, st, Q => pwp P a st fun x st' => match x with
    | .normal => pwp P b st' Q
    | x => Q x st'
  | .cond c t e, st, Q => bindO (st.ev c) fun p => match p with
    | .val (.bool b) => (b = true → pwp P t st Q) ∧ (b = false → pwp P e st Q)
    | _ => False
  | .block id c, st, Q => pwp P c st fun x st' => match x with
    | .exit i => if i = id then Q .normal st' else Q (.exit i) st'
    | x => Q x st'
  | .loop c, st, Q => ∃ (ι : Type) (I : ι → PS) (m : ι → Nat) (i0 : ι), Weak st (I i0) ∧ ∀ i, pwp P c (I i) fun x st' => match x with
    | .normal => ∃ j, m j < m i ∧ Weak st' (I j)
    | x => Q x st'
  | .exit id, st, Q => Q (.exit id) st
  | .ret, st, Q => Q .ret st
  | _, _, _ => False

/-- All slots lie in the frame; in regions that draw their order, whatever isn't ordered doesn't meet. -/
def fitsC (N : Nat) : Code → Bool
  | .region _ ops draw => (ops.toList.all fun o => fitsDst N o.dst) && (!draw || drawOk ops)
  | .seq a b => fitsC N a && fitsC N b
  | .cond _ a b => fitsC N a && fitsC N b
  | .block _ c => fitsC N c
  | .loop c => fitsC N c
  | _ => true

section
variable {P : Program} {own : Nat → Prop} {S0 : Cells} {w0 w : World} {C : Cx} {st : PS} {a : Act} {N : Nat}

theorem ltL_get {a b : Nat} : ∀ {cs : List PV}, PV.ltL a b cs = true → ∀ p ∈ cs, p.lt a b = true
  | [], _, p, hp => by cases hp
  | q :: r, h, p, hp => by
    simp only [PV.ltL, Bool.and_eq_true] at h
    rcases List.mem_cons.1 hp with rfl | hp
    · exact h.1
    · exact ltL_get h.2 p hp
theorem RepV.lower {T T' : List (Nat × Tok)} {U V U' V' : Nat → Prop} {a b : Nat} (hT : ∀ k t, lkp T' k = some t → lkp T k = some t) (hU : ∀ i, i < a → U' i) (hV : ∀ i, i < b → V' i) {v : Value} {p : PV} (r : RepV C T U V v p) :
    p.lt a b = true → RepV C T' U' V' v p := by
  induction r with
  | frz h => exact fun _ => .frz h
  | row h hk ht =>
    intro hl
    simp only [PV.lt, decide_eq_true_eq] at hl
    exact .row h (hV _ hl) (fun t h' => ht t (hT _ t h'))
  | ptr h => intro hl; simp only [PV.lt, decide_eq_true_eq] at hl; exact .ptr (hU _ hl)
  | ms h hc => intro hl; simp only [PV.lt, decide_eq_true_eq] at hl; exact .ms (hU _ hl) hc
  | fp h => exact fun _ => .fp h
  | agg hs h h1 ih => intro hl; exact .agg hs (fun i v p hv hp => ih i v p hv hp (ltL_get hl p (List.mem_of_getElem? hp))) h1
  | tup hs h ih => intro hl; exact .tup hs (fun i v p hv hp => ih i v p hv hp (ltL_get hl p (List.mem_of_getElem? hp)))
  | fn hs h ih => intro hl; exact .fn hs (fun i v p hv hp => ih i v p hv hp (ltL_get hl p (List.mem_of_getElem? hp)))
theorem lkp_mem {α : Type} : ∀ {l : List (Nat × α)} {i : Nat} {v : α}, lkp l i = some v → (i, v) ∈ l
  | [], i, v, h => by simp [lkp] at h
  | (k, u) :: r, i, v, h => by
    rw [lkp_cons] at h
    split at h
    · obtain rfl := Option.some.inj h
      rename_i e
      subst e
      simp
    · exact List.mem_cons_of_mem _ (lkp_mem h)

/-- The state, in the call's own numbers. -/
abbrev Stt (own : Nat → Prop) (S0 : Cells) (w0 : World) (N : Nat) (st : PS) (a : Act) (w : World) : Prop := StN own S0 w0 N (· < st.nx) (· < st.nt) st a w
theorem Stt.weak {st' : PS} (h : Stt own S0 w0 N st a w) (k : Weak st st') : Stt own S0 w0 N st' a w := by
  obtain ⟨h1, h2, C, R, E⟩ := h
  have hT : ∀ i t, lkp st'.toks i = some t → lkp st.toks i = some t := fun i t h => (k.toks _ (lkp_mem h)).1
  refine ⟨h1, h2, C, ⟨R.frame, R.stable, ?_, ?_, ?_, ?_, ?_, ?_, ?_, R.snew, R.sold⟩, ?_⟩
  · intro id T cs h
    obtain ⟨g1, g2, g3⟩ := k.heap _ (lkp_mem h)
    obtain ⟨vs, e1, e2, e3⟩ := R.box id T cs g1
    exact ⟨vs, e1, e2, fun i v p hv hp => ⟨(e3 i v p hv hp).1, (e3 i v p hv hp).2.lower hT (fun _ h => h) (fun _ h => h) (ltL_get g3 p (List.mem_of_getElem? hp))⟩⟩
  · intro id s pos h
    exact R.iter id s pos (k.heap _ (lkp_mem h)).1
  · intro id o h
    obtain ⟨g1, g2, g3⟩ := k.heap _ (lkp_mem h)
    exact ⟨g2, (R.hown id o g1).2⟩
  · intro i j oi oj g1 g2
    exact R.hinj i j oi oj (k.heap _ (lkp_mem g1)).1 (k.heap _ (lkp_mem g2)).1
  · intro i t h
    obtain ⟨g1, g2⟩ := k.toks _ (lkp_mem h)
    exact ⟨g2, (R.tok i t g1).2⟩
  · intro i oi j t g1 g2
    exact R.tbox i oi j t (k.heap _ (lkp_mem g1)).1 (k.toks _ (lkp_mem g2)).1
  · intro i j ti tj g1 g2
    exact R.tinj i j ti tj (k.toks _ (lkp_mem g1)).1 (k.toks _ (lkp_mem g2)).1
  · intro t p h
    obtain ⟨g1, g2⟩ := k.env _ (lkp_mem h)
    obtain ⟨v, e1, e2⟩ := E t p g1
    exact ⟨v, e1, e2.lower hT (fun _ h => h) (fun _ h => h) g2⟩

def liftN (own : Nat → Prop) (S0 : Cells) (w0 : World) (N : Nat) (Q : Exit → PS → Prop) : Exit → Act → World → Prop := fun x a w => ∃ st, Q x st ∧ Stt own S0 w0 N st a w

theorem guard_sound {U V : Nat → Prop} {ops : Array Oper} {g : Nat} {K : Option Bool → Prop} (h : StN own S0 w0 N U V st a w) (k : guardK ops g st K) : ∃ t, yielded ops a.tmps g = t ∧ K t := by
  obtain ⟨h1, h2, C, R, E⟩ := h
  unfold guardK at k
  replace k := bindO_elim k
  obtain ⟨d, hd, k⟩ := k
  replace k := bindO_elim k
  obtain ⟨p, hp, k⟩ := k
  split at k
  · rename_i t
    obtain ⟨v, hv, r⟩ := E d _ hp
    obtain ⟨rfl, _⟩ := rep_val r
    exact ⟨some t, by simp [yielded, hd, hv], k⟩
  · obtain ⟨v, hv, r⟩ := E d _ hp
    obtain ⟨vs, rfl, _⟩ := rep_tup r
    exact ⟨none, by simp [yielded, hd, hv], k⟩
  · exact k.elim
theorem StN.kill {U V : Nat → Prop} (h : StN own S0 w0 N U V st a w) (d : Option Tmp) (hf : fitsDst N d = true) : StN own S0 w0 N U V (st.kill d) (a.put d undef) w := by
  obtain ⟨h1, h2, C, R, E⟩ := h
  exact StN.of_kill (d := d) h1 h2 hf R E
theorem StN.wide {U V U' V' : Nat → Prop} (h : StN own S0 w0 N U V st a w) (hU : ∀ i, U i → U' i) (hV : ∀ i, V i → V' i) : StN own S0 w0 N U' V' st a w := by
  obtain ⟨h1, h2, C, R, E⟩ := h
  have X : Ext C C st.toks st.toks U V U' V' := ⟨SLe.refl _, fun _ _ => rfl, fun k t _ h => ⟨t, h, Nat.le_refl _, rfl, fun _ => rfl⟩, hU, hV⟩
  exact ⟨h1, h2, C, R.wide hU hV, E.ext X rfl⟩
theorem StN.nxnt {U V : Nat → Prop} (h : StN own S0 w0 N U V st a w) (x y : Nat) : StN own S0 w0 N U V { st with nx := x, nt := y } a w := by
  obtain ⟨h1, h2, C, R, E⟩ := h
  exact ⟨h1, h2, C, R.nxnt x y, E⟩

theorem dops_sound {ops : Array Oper} {nx0 nt0 : Nat} {Q : Exit → PS → Prop} : ∀ (l : List Oper) (i : Nat) (st : PS) (a : Act) (w : World), (l.all fun o => fitsDst N o.dst) = true → dops P ops nx0 nt0 i l st (Q .normal) →
    StN own S0 w0 N (· < nx0 + i) (· < nt0 + i) st a w → wpList P ops (liftN own S0 w0 N Q) l a w
  | [], i, st, a, w, _, k, h => wpList_nil ⟨_, k, h.nxnt (nx0 + i) (nt0 + i)⟩
  | o :: r, i, st, a, w, hf, k, h => by
    simp only [List.all_cons, Bool.and_eq_true] at hf
    refine wpList_step (fun K hK => ?_)
    simp only [dops] at k
    have step : stepN P o st (nx0 + i) (nt0 + i) (fun st' => dops P ops nx0 nt0 (i + 1) r st' (Q .normal)) → o.wp P a w K (liftN own S0 w0 N Q) := fun k => by
      obtain ⟨h1, h2, C, R, E⟩ := h
      exact Oper.wp_mono (fun a' w' ⟨st', hk, hs⟩ => hK a' w' (dops_sound r (i + 1) st' a' w' hf.2 hk hs))
        (stepN_sound (U' := (· < nx0 + (i + 1))) (V' := (· < nt0 + (i + 1))) E R h1 h2 hf.1 (fun j hj => by omega) (fun j hj => by omega) (fun _ => ⟨Nat.lt_irrefl _, by omega⟩) (fun _ => ⟨Nat.lt_irrefl _, by omega⟩) k)
    have skip : dops P ops nx0 nt0 (i + 1) r (st.kill o.dst) (Q .normal) → K (a.put o.dst undef) w := fun k =>
      hK _ _ (dops_sound r (i + 1) _ _ w hf.2 k ((h.kill o.dst hf.1).wide (fun j hj => by omega) (fun j hj => by omega)))
    cases hg : o.guard with
    | none =>
      rw [hg] at k
      simp only [Region.wanted, hg, if_true]
      exact step k
    | some gb =>
      obtain ⟨g, b⟩ := gb
      rw [hg] at k
      simp only at k
      obtain ⟨t, ht, k1, k2⟩ := guard_sound h k
      by_cases htb : t = some b
      · have : Region.wanted o (yielded ops a.tmps) = true := by simp [Region.wanted, hg, ht, htb]
        rw [if_pos this]
        exact step (k1 htb)
      · have : Region.wanted o (yielded ops a.tmps) = false := by simp [Region.wanted, hg, ht, htb]
        rw [this]
        simp only [Bool.false_eq_true, if_false]
        exact skip (k2 htb)
end
end Go.Pw
