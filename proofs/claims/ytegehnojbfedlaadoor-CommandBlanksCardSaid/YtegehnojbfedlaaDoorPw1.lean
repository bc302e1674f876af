/-
  A pure reading of the model's code: values without memory (PV), what it is for a value of the machine to be one of them, and the state relation.
-/
import Derived.WalkKit
import Derived.Test.YtegehnojbfedlaaDoorPwT
import Derived.Below
import Derived.Laws.AppendOwn
import Derived.Laws.Cells
import Derived.Laws.Slices
import Derived.Laws.Entries
import Derived.Laws.Small
import Derived.Laws.BytesArg
import Derived.KernelRfl
namespace Go.Pw
open Go Go.RowKit
set_option linter.unusedVariables false
set_option linter.unusedSimpArgs false

inductive PV where
  | val (v : Value)
  | sl (xs : List (List PV))
  | row (tok : Nat) (xs : List (List PV))
  | ptr (id off : Nat)
  | ms (id lo n cap : Nat)
  | fp (cs : List PV)
  | agg (cs : List PV)
  | tup (cs : List PV)
  | fn (f : FuncId) (caps : List PV)
  | iface (t : TypeId) (p : PV)
  deriving Inhabited

def PV.cells : PV → List PV
  | .agg cs => cs
  | p => [p]
def PV.one : PV → Bool
  | .val v => v.oneCell'
  | .agg _ | .tup _ => false
  | _ => true

/-- Which cells never turn any more, and what they hold. -/
abbrev Cells := Nat → Nat → Option Value
def SLe (S S' : Cells) : Prop := ∀ b o v, S b o = some v → S' b o = some v
theorem SLe.refl (S : Cells) : SLe S S := fun _ _ _ h => h
theorem SLe.trans {S S' S'' : Cells} (h : SLe S S') (k : SLe S' S'') : SLe S S'' := fun b o v e => k b o v (h b o v e)

/-- A value of one cell that reads as p in cells that never turn. -/
inductive RepF (S : Cells) : Value → PV → Prop
  | val {v : Value} (h : v.oneCell' = true) : RepF S v (.val v)
  | sl {A : Option Addr} {n c sz : Nat} {xs : List (List PV)} (f : Nat → Nat → Value)
      (hn : xs.length = n) (hc : n ≤ c) (hsz : ∀ x ∈ xs, x.length = sz)
      (hA : 0 < n → ∃ b o, A = some ⟨b, o, none⟩ ∧ ∀ j i, j < n → i < sz → S b (o + (j * sz + i)) = some (f j i))
      (hr : ∀ j i x p, xs[j]? = some x → x[i]? = some p → RepF S (f j i) p) : RepF S (.slice A n c) (.sl xs)

theorem RepF.mono {S S' : Cells} (h : SLe S S') {v : Value} {p : PV} (r : RepF S v p) : RepF S' v p := by
  induction r with
  | val h1 => exact .val h1
  | sl f hn hc hsz hA hr ih =>
    refine .sl f hn hc hsz (fun h0 => ?_) (fun j i x p hx hp => ih j i x p hx hp)
    obtain ⟨b, o, e, k⟩ := hA h0
    exact ⟨b, o, e, fun j i hj hi => h _ _ _ (k j i hj hi)⟩
theorem RepF.one {S : Cells} {v : Value} {p : PV} (r : RepF S v p) : v.oneCell' = true := by
  cases r with
  | val h => exact h
  | sl => rfl

structure Tok where
  e : TypeId
  sz : Nat
  n : Nat
inductive PObj where
  | box (t : TypeId) (cs : List PV)
  | iter (s : ByteArray) (pos : Nat)

def lkp {α : Type} : List (Nat × α) → Nat → Option α
  | [], _ => none
  | (k, v) :: r, i => if i = k then some v else lkp r i
def upd {α : Type} : List (Nat × α) → Nat → α → List (Nat × α)
  | [], i, v => [(i, v)]
  | (k, u) :: r, i, v => if i = k then (i, v) :: r else (k, u) :: upd r i v
theorem lkp_upd {α : Type} (l : List (Nat × α)) (i : Nat) (v : α) (j : Nat) : lkp (upd l i v) j = if j = i then some v else lkp l j := by
  induction l with
  | nil => simp [upd, lkp]
  | cons x r ih =>
    obtain ⟨k, u⟩ := x
    unfold upd
    by_cases h : i = k
    · subst h
      rw [if_pos rfl]
      simp only [lkp]
      split <;> rfl
    · rw [if_neg h]
      simp only [lkp, ih]
      by_cases hj : j = k
      · subst hj
        rw [if_pos rfl, if_pos rfl, if_neg (fun e => h e.symm)]
      · rw [if_neg hj, if_neg hj]
theorem lkp_cons {α : Type} (l : List (Nat × α)) (i : Nat) (v : α) (j : Nat) : lkp ((i, v) :: l) j = if j = i then some v else lkp l j := rfl

structure PS where
  env : List (Nat × PV)
  heap : List (Nat × PObj)
  toks : List (Nat × Tok)
  nx : Nat
  nt : Nat

/-- Where the objects and the rows lie: which block; of a row: its capacity. -/
structure Cx where
  ρ : Nat → Nat
  τ : Nat → Nat × Nat
  S : Cells

/-- A value reads as p. T: the rows that may still be appended to; U, V: which objects and rows there are. -/
inductive RepV (C : Cx) (T : List (Nat × Tok)) (U V : Nat → Prop) : Value → PV → Prop
  | frz {v : Value} {p : PV} (h : RepF C.S v p) : RepV C T U V v p
  | row {v : Value} {tok : Nat} {xs : List (List PV)} (h : RepF C.S v (.sl xs)) (hk : V tok)
      (ht : ∀ t, lkp T tok = some t → xs.length ≤ t.n ∧ (∀ x ∈ xs, x.length = t.sz) ∧ (xs.length = t.n → v = .slice (some ⟨(C.τ tok).1, 0, none⟩) t.n (C.τ tok).2)) : RepV C T U V v (.row tok xs)
  | ptr {id off : Nat} (h : U id) : RepV C T U V (.pointer (some ⟨C.ρ id, off, none⟩)) (.ptr id off)
  | ms {id lo n cap : Nat} (h : U id) (hc : n ≤ cap) : RepV C T U V (.slice (some ⟨C.ρ id, lo, none⟩) n cap) (.ms id lo n cap)
  | fp {b o : Nat} {cs : List PV} (h : ∀ (i : Nat) (p : PV), cs[i]? = some p → ∃ u, C.S b (o + i) = some u ∧ RepF C.S u p) : RepV C T U V (.pointer (some ⟨b, o, none⟩)) (.fp cs)
  | agg {vs : Array Value} {cs : List PV} (hs : vs.size = cs.length) (h : ∀ (i : Nat) (v : Value) (p : PV), vs[i]? = some v → cs[i]? = some p → RepV C T U V v p)
      (h1 : ∀ (i : Nat) (v : Value), vs[i]? = some v → v.oneCell' = true) : RepV C T U V (.agg vs) (.agg cs)
  | tup {vs : Array Value} {cs : List PV} (hs : vs.size = cs.length) (h : ∀ (i : Nat) (v : Value) (p : PV), vs[i]? = some v → cs[i]? = some p → RepV C T U V v p) : RepV C T U V (.tuple vs) (.tup cs)
  | fn {f : FuncId} {vs : Array Value} {cs : List PV} (hs : vs.size = cs.length) (h : ∀ (i : Nat) (v : Value) (p : PV), vs[i]? = some v → cs[i]? = some p → RepV C T U V v p) :
      RepV C T U V (.func (.func f) #[] vs) (.fn f cs)
  | iface {t : TypeId} {v : Value} {p : PV} (h : RepV C T U V v p) : RepV C T U V (.iface t v) (.iface t p)

/-- How the places and rows may move: what lies stays; rows only grow. -/
structure Ext (C C' : Cx) (T T' : List (Nat × Tok)) (U V U' V' : Nat → Prop) : Prop where
  S : SLe C.S C'.S
  ρ : ∀ id, U id → C'.ρ id = C.ρ id
  tok : ∀ k t', V k → lkp T' k = some t' → ∃ t, lkp T k = some t ∧ t.n ≤ t'.n ∧ t'.sz = t.sz ∧ (t.n = t'.n → C'.τ k = C.τ k)
  nx : ∀ i, U i → U' i
  nt : ∀ i, V i → V' i
theorem Ext.refl (C : Cx) (T : List (Nat × Tok)) (U V : Nat → Prop) : Ext C C T T U V U V :=
  ⟨SLe.refl _, fun _ _ => rfl, fun k t _ h => ⟨t, h, Nat.le_refl _, rfl, fun _ => rfl⟩, fun _ h => h, fun _ h => h⟩
theorem Ext.trans {C C' C'' : Cx} {T T' T'' : List (Nat × Tok)} {U V U' V' U'' V'' : Nat → Prop} (h : Ext C C' T T' U V U' V') (k : Ext C' C'' T' T'' U' V' U'' V'') : Ext C C'' T T'' U V U'' V'' :=
  ⟨h.S.trans k.S, fun id hi => (k.ρ id (h.nx _ hi)).trans (h.ρ id hi), fun i t hi ht => by
    obtain ⟨t1, h1, h2, hz, h3⟩ := k.tok i t (h.nt _ hi) ht
    obtain ⟨t2, h4, h5, hz', h6⟩ := h.tok i t1 hi h1
    exact ⟨t2, h4, Nat.le_trans h5 h2, hz.trans hz', fun e => (h3 (by omega)).trans (h6 (by omega))⟩, fun i hi => k.nx i (h.nx i hi), fun i hi => k.nt i (h.nt i hi)⟩
theorem RepV.ext {C C' : Cx} {T T' : List (Nat × Tok)} {U V U' V' : Nat → Prop} (e : Ext C C' T T' U V U' V') {v : Value} {p : PV} (r : RepV C T U V v p) : RepV C' T' U' V' v p := by
  induction r with
  | frz h => exact .frz (h.mono e.S)
  | row h hk ht =>
    refine .row (h.mono e.S) (e.nt _ hk) (fun t' h' => ?_)
    obtain ⟨t, h1, h2, hz, h3⟩ := e.tok _ t' hk h'
    obtain ⟨h4, hl, h5⟩ := ht t h1
    refine ⟨Nat.le_trans h4 h2, fun x hx => (hl x hx).trans hz.symm, fun h6 => ?_⟩
    have h7 : t.n = t'.n := by omega
    rw [h3 h7, ← h7]
    exact h5 (by omega)
  | @ptr id off h => rw [← e.ρ id h]; exact .ptr (e.nx _ h)
  | @ms id lo n cap h hc => rw [← e.ρ id h]; exact .ms (e.nx _ h) hc
  | fp h => exact .fp (fun i p hp => by obtain ⟨u, h1, h2⟩ := h i p hp; exact ⟨u, e.S _ _ _ h1, h2.mono e.S⟩)
  | agg hs h h1 ih => exact .agg hs ih h1
  | tup hs h ih => exact .tup hs ih
  | fn hs h ih => exact .fn hs ih
  | iface h ih => exact .iface ih

/-- What the call may have turned: blocks of its own ('own'), and new ones. -/
structure Frame (own : Nat → Prop) (w0 w : World) : Prop where
  os : w.os = w0.os
  tape : w.tape = w0.tape
  output : w.output = w0.output
  size : w0.heap.size ≤ w.heap.size
  block : ∀ k, k < w0.heap.size → ¬ own k → w.heap[k]? = w0.heap[k]?
theorem Frame.refl (own : Nat → Prop) (w : World) : Frame own w w := ⟨rfl, rfl, rfl, Nat.le_refl _, fun _ _ _ => rfl⟩

/-- Where it began: which cells did not turn, where the objects and rows lay, which there were. -/
structure Base where
  S : Cells
  C : Cx
  T : List (Nat × Tok)
  U : Nat → Prop
  V : Nat → Prop
/-- The package-level variables hold what they should; nobody owns them. -/
structure Glob (own : Nat → Prop) (w0 : World) : Prop where
  has : HasW w0
  size : nGlob ≤ w0.heap.size
  own : ∀ g, g < nGlob → ¬ own g
structure Rel (own : Nat → Prop) (S0 : Base) (w0 : World) (C : Cx) (U V : Nat → Prop) (st : PS) (w : World) : Prop where
  frame : Frame own w0 w
  stable : ∀ b o v, C.S b o = some v → w.cell? ⟨b, o, none⟩ = some v
  box : ∀ id t cs, lkp st.heap id = some (.box t cs) → ∃ vs : Array Value, w.heap[C.ρ id]? = some (.cells vs t (0, 0)) ∧ vs.size = cs.length ∧
    ∀ (i : Nat) (v : Value) (p : PV), vs[i]? = some v → cs[i]? = some p → v.oneCell' = true ∧ RepV C st.toks U V v p
  iter : ∀ id s pos, lkp st.heap id = some (.iter s pos) → w.heap[C.ρ id]? = some (.stringIter s pos)
  hown : ∀ id o, lkp st.heap id = some o → U id ∧ C.ρ id < w.heap.size ∧ (own (C.ρ id) ∨ w0.heap.size ≤ C.ρ id) ∧ ∀ o', C.S (C.ρ id) o' = none
  hinj : ∀ i j oi oj, lkp st.heap i = some oi → lkp st.heap j = some oj → C.ρ i = C.ρ j → i = j
  tok : ∀ k t, lkp st.toks k = some t → V k ∧ (own (C.τ k).1 ∨ w0.heap.size ≤ (C.τ k).1) ∧ (∃ vs : Array Value, w.heap[(C.τ k).1]? = some (.cells vs t.e (0, 0)) ∧ vs.size = (C.τ k).2 * t.sz) ∧
    t.n ≤ (C.τ k).2 ∧ (C.τ k).2 ≤ maxLen ∧ ∀ o, t.n * t.sz ≤ o → C.S (C.τ k).1 o = none
  tbox : ∀ i oi k t, lkp st.heap i = some oi → lkp st.toks k = some t → C.ρ i ≠ (C.τ k).1
  tinj : ∀ i j ti tj, lkp st.toks i = some ti → lkp st.toks j = some tj → (C.τ i).1 = (C.τ j).1 → i = j
  snew : ∀ b o v, C.S b o = some v → S0.S b o = some v ∨ own b ∨ w0.heap.size ≤ b
  sold : SLe S0.S C.S
  base : Ext S0.C C S0.T st.toks S0.U S0.V U V
  glob : Glob own w0

/-- What a function may rest on, of the variables. -/
def Known (w : World) : Prop := nGlob ≤ w.heap.size ∧ HasW w
theorem Rel.known {own : Nat → Prop} {S0 : Base} {w0 w : World} {C : Cx} {U V : Nat → Prop} {st : PS} (R : Rel own S0 w0 C U V st w) : Known w :=
  ⟨Nat.le_trans R.glob.size R.frame.size, R.glob.has.mono (fun g hg => R.frame.block g (Nat.lt_of_lt_of_le hg R.glob.size) (R.glob.own g hg))⟩
def Env (C : Cx) (U V : Nat → Prop) (st : PS) (a : Act) : Prop := ∀ t p, lkp st.env t = some p → ∃ v, a.tmps[t]? = some v ∧ RepV C st.toks U V v p

/-- The machine's state reads as the pure one. -/
structure St (own : Nat → Prop) (S0 : Base) (w0 : World) (N : Nat) (st : PS) (a : Act) (w : World) : Prop where
  defers : a.defers = []
  size : a.tmps.size = N
  ex : ∃ C, Rel own S0 w0 C (· < st.nx) (· < st.nt) st w ∧ Env C (· < st.nx) (· < st.nt) st a

def constPV : Value → PV
  | .agg cs => .agg (cs.toList.map .val)
  | v => .val v
def constOk : Value → Bool
  | .agg cs => cs.toList.all (·.oneCell')
  | .tuple _ => false
  | _ => true
theorem constPV_rep {C : Cx} {T : List (Nat × Tok)} {U V : Nat → Prop} {v : Value} (h : constOk v = true) : RepV C T U V v (constPV v) := by
  cases v with
  | agg cs =>
    simp only [constOk, List.all_eq_true] at h
    refine .agg (by simp) (fun i v p hv hp => ?_) (fun i v hv => ?_)
    · have h1 := h v (by simpa using Array.mem_of_getElem? hv)
      have h2 : p = .val v := by simp [List.getElem?_map, hv] at hp; exact hp.symm
      subst h2
      exact .frz (.val h1)
    · exact h v (by simpa using Array.mem_of_getElem? hv)
  | tuple vs => simp [constOk] at h
  | _ => exact .frz (.val rfl)

def PS.ev (st : PS) : Operand → Option PV
  | .tmp t => lkp st.env t
  | .const v => if constOk v then some (constPV v) else none
  | .func f => some (.fn f [])
  | .global _ => none
theorem ev_rep {C : Cx} {U V : Nat → Prop} {st : PS} {a : Act} (h : Env C U V st a) {x : Operand} {p : PV} (hp : st.ev x = some p) : RepV C st.toks U V (a.eval x) p := by
  cases x with
  | tmp t =>
    obtain ⟨v, hv, r⟩ := h t p hp
    simpa [Act.eval, hv] using r
  | const v =>
    simp only [PS.ev] at hp
    split at hp
    · obtain rfl := Option.some.inj hp
      exact constPV_rep (by assumption)
    · cases hp
  | func f =>
    simp only [PS.ev] at hp
    obtain rfl := Option.some.inj hp
    exact .fn (vs := #[]) (by simp) (by simp)
  | global g => simp [PS.ev] at hp

def PS.put (st : PS) (dst : Option Tmp) (p : PV) : PS :=
  match dst with
  | some d => { st with env := (d, p) :: st.env }
  | none => st
/-- A slot that was passed over. -/
def PS.kill (st : PS) (dst : Option Tmp) : PS := st.put dst (.tup [])
@[simp] theorem put_heap (st : PS) (d : Option Tmp) (p : PV) : (st.put d p).heap = st.heap := by cases d <;> rfl
@[simp] theorem put_toks (st : PS) (d : Option Tmp) (p : PV) : (st.put d p).toks = st.toks := by cases d <;> rfl
@[simp] theorem put_nx (st : PS) (d : Option Tmp) (p : PV) : (st.put d p).nx = st.nx := by cases d <;> rfl
@[simp] theorem put_nt (st : PS) (d : Option Tmp) (p : PV) : (st.put d p).nt = st.nt := by cases d <;> rfl
theorem Rel.put {own : Nat → Prop} {S0 : Base} {w0 w : World} {C : Cx} {U V : Nat → Prop} {st : PS} (h : Rel own S0 w0 C U V st w) (d : Option Tmp) (p : PV) : Rel own S0 w0 C U V (st.put d p) w := by
  cases d with
  | none => exact h
  | some d => exact ⟨h.frame, h.stable, h.box, h.iter, h.hown, h.hinj, h.tok, h.tbox, h.tinj, h.snew, h.sold, h.base, h.glob⟩
def fitsDst (N : Nat) : Option Tmp → Bool
  | some d => decide (d < N)
  | none => true
theorem Env.put {C : Cx} {U V : Nat → Prop} {st : PS} {a : Act} (h : Env C U V st a) {d : Option Tmp} (hd : fitsDst a.tmps.size d = true) {v : Value} {p : PV} (r : RepV C st.toks U V v p) : Env C U V (st.put d p) (a.put d v) := by
  cases d with
  | none => exact h
  | some d =>
    intro t q hq
    simp only [fitsDst, decide_eq_true_eq] at hd
    simp only [PS.put, lkp_cons] at hq
    split at hq
    · rename_i e
      subst e
      obtain rfl := Option.some.inj hq
      exact ⟨v, by simp [Act.put, hd], r⟩
    · rename_i hne
      obtain ⟨u, hu, r'⟩ := h t q hq
      exact ⟨u, by simp only [Act.put]; rw [Array.getElem?_setIfInBounds_ne (fun e => hne e.symm)]; exact hu, r'⟩
theorem undef_rep {C : Cx} {T : List (Nat × Tok)} {U V : Nat → Prop} : RepV C T U V undef (.tup []) := .tup (vs := #[]) rfl (fun i v p h => by simp at h)
theorem Env.kill {C : Cx} {U V : Nat → Prop} {st : PS} {a : Act} (h : Env C U V st a) {d : Option Tmp} (hd : fitsDst a.tmps.size d = true) : Env C U V (st.kill d) (a.put d undef) := h.put hd undef_rep
theorem Rel.kill {own : Nat → Prop} {S0 : Base} {w0 w : World} {C : Cx} {U V : Nat → Prop} {st : PS} (h : Rel own S0 w0 C U V st w) (d : Option Tmp) : Rel own S0 w0 C U V (st.kill d) w := h.put d _
end Go.Pw
