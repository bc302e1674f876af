/-
  What each operation comes to, as rules to rewrite by.
-/
import Derived.Test.YtegehnojbfedlaaDoorPw14
import Derived.Laws.BitsLemmas
namespace Go.Pw
open Go Go.RowKit
set_option linter.unusedVariables false
/-! ### the code -/
theorem b_some {α : Type} (x : α) (K : α → Prop) : bindO (some x) K = K x := propext Iff.rfl
theorem i_int (k : IntKind) (i : Int) (K : Int → Prop) : intK (.val (.int k i)) K = K i := propext Iff.rfl
section
variable {P : Program} {L : Lim} {l0 : Nat × Nat} {st : PS} {Q : Exit → PS → Prop}
/-- First the state, then what follows. -/
def evS (st : PS) (K : PS → Prop) : Prop := K st
def evN (n : Nat) (K : Nat → Prop) : Prop := K n
theorem evS_eq (st : PS) (K : PS → Prop) : evS st K = K st := propext Iff.rfl
theorem evN_eq (n : Nat) (K : Nat → Prop) : evN n K = K n := propext Iff.rfl
theorem d_nil {ops : Array Oper} {a b i : Nat} {K : PS → Prop} : dops P ops a b i [] st K = evS { st with nx := a + i, nt := b + i } K := propext Iff.rfl
theorem d_plain {ops : Array Oper} {a b i : Nat} {r : List Oper} {K : PS → Prop} {d : Option Tmp} {op : Op} {ty : TypeId} {pos : String} {af : Array Edge} :
    dops P ops a b i (⟨d, op, ty, pos, af, none⟩ :: r) st K = stepN true P ⟨d, op, ty, pos, af, none⟩ st (a + i) (b + i) fun st' => evS st' fun st' => evN (i + 1) fun j => dops P ops a b j r st' K := propext Iff.rfl
theorem ds_nil {ops : Array Oper} {i : Nat} {K : PS → Prop} : dopsS P ops i [] st K = evN st.nx fun a => evN st.nt fun b => evS { st with nx := a + i, nt := b + i } K := propext Iff.rfl
theorem ds_plain {ops : Array Oper} {i : Nat} {r : List Oper} {K : PS → Prop} {d : Option Tmp} {op : Op} {ty : TypeId} {pos : String} {af : Array Edge} :
    dopsS P ops i (⟨d, op, ty, pos, af, none⟩ :: r) st K = evN st.nx fun a => evN st.nt fun b => stepN false P ⟨d, op, ty, pos, af, none⟩ st (a + i) (b + i) fun st' => evS st' fun st' => evN (i + 1) fun j => dopsS P ops j r st' K := propext Iff.rfl
/-- A branch that isn't decided yet: rewriting stops at it. -/
def ifK (b : Bool) (A B : Prop) : Prop := (b = true → A) ∧ (b = false → B)
def boolK (p : PV) (K : Bool → Prop) : Prop := match p with
  | .val (.bool t) => K t
  | _ => False
/-- A guard: A if it stands so, B if not, or if it was passed over. -/
def guardP (t : Bool) (p : PV) (A B : Prop) : Prop := match p with
  | .val (.bool u) => match t with
    | true => ifK u A B
    | false => ifK u B A
  | .tup [] => B
  | _ => False
theorem guardP_t {u : Bool} {A B : Prop} : guardP true (.val (.bool u)) A B = ifK u A B := propext Iff.rfl
theorem guardP_f {u : Bool} {A B : Prop} : guardP false (.val (.bool u)) A B = ifK u B A := propext Iff.rfl
theorem guardP_n {t : Bool} {A B : Prop} : guardP t (.tup []) A B = B := propext Iff.rfl
theorem ifK_true {A B : Prop} : ifK true A B = A := propext ⟨fun h => h.1 rfl, fun h => ⟨fun _ => h, fun e => (by cases e)⟩⟩
theorem ifK_false {A B : Prop} : ifK false A B = B := propext ⟨fun h => h.2 rfl, fun h => ⟨fun e => (by cases e), fun _ => h⟩⟩
theorem ifK_dT {p : Prop} [Decidable p] {A B : Prop} (h : p) : ifK (decide p) A B = A := by rw [decide_eq_true h, ifK_true]
theorem ifK_dF {p : Prop} [Decidable p] {A B : Prop} (h : ¬p) : ifK (decide p) A B = B := by rw [decide_eq_false h, ifK_false]
theorem ifK_nT {p : Prop} [Decidable p] {A B : Prop} (h : p) : ifK (!decide p) A B = B := by rw [decide_eq_true h, Bool.not_true, ifK_false]
theorem ifK_nF {p : Prop} [Decidable p] {A B : Prop} (h : ¬p) : ifK (!decide p) A B = A := by rw [decide_eq_false h, Bool.not_false, ifK_true]
theorem ifK_split {p : Prop} [Decidable p] {A B : Prop} (ha : p → A) (hb : ¬p → B) : ifK (decide p) A B := ⟨fun h => ha (of_decide_eq_true h), fun h => hb (of_decide_eq_false h)⟩
theorem ifK_nsplit {p : Prop} [Decidable p] {A B : Prop} (ha : ¬p → A) (hb : p → B) : ifK (!decide p) A B := ⟨fun h => ha (by simpa using h), fun h => hb (by simpa using h)⟩
theorem ifK_bsplit {b : Bool} {A B : Prop} (ha : b = true → A) (hb : b = false → B) : ifK b A B := ⟨ha, hb⟩
theorem boolK_b {t : Bool} {K : Bool → Prop} : boolK (.val (.bool t)) K = K t := propext Iff.rfl
theorem d_guard {l : List Oper} {a b i g : Nat} {t : Bool} {r : List Oper} {K : PS → Prop} {d : Option Tmp} {op : Op} {ty : TypeId} {pos : String} {af : Array Edge} :
    dops P l.toArray a b i (⟨d, op, ty, pos, af, some (g, t)⟩ :: r) st K = bindO ((l[g]?).bind (·.dst)) fun e => bindO (lkp st.env e) fun p => guardP t p
      (stepN true P ⟨d, op, ty, pos, af, some (g, t)⟩ st (a + i) (b + i) fun st' => evS st' fun st' => evN (i + 1) fun j => dops P l.toArray a b j r st' K)
      (evS (st.kill d) fun st' => evN (i + 1) fun j => dops P l.toArray a b j r st' K) := by
  rw [← List.getElem?_toArray]
  simp only [dops, guardK]
  congr 1; funext e; congr 1; funext p
  unfold guardP
  refine propext ?_
  split
  · rename_i u
    cases t <;> cases u <;> simp only [ifK_true, ifK_false, evS_eq, evN_eq, Option.some.injEq, reduceCtorEq, forall_const, false_implies, ne_eq, not_true_eq_false, not_false_eq_true, true_and, and_true] 
  · simp only [reduceCtorEq, false_implies, ne_eq, not_false_eq_true, forall_const, true_and, evS_eq, evN_eq]
  · rename_i h1 h2
    split
    · exact absurd rfl (h1 _)
    · exact absurd rfl h2
    · exact Iff.rfl
theorem ds_guard {l : List Oper} {i g : Nat} {t : Bool} {r : List Oper} {K : PS → Prop} {d : Option Tmp} {op : Op} {ty : TypeId} {pos : String} {af : Array Edge} :
    dopsS P l.toArray i (⟨d, op, ty, pos, af, some (g, t)⟩ :: r) st K = bindO ((l[g]?).bind (·.dst)) fun e => bindO (lkp st.env e) fun p => guardP t p
      (evN st.nx fun a => evN st.nt fun b => stepN false P ⟨d, op, ty, pos, af, some (g, t)⟩ st (a + i) (b + i) fun st' => evS st' fun st' => evN (i + 1) fun j => dopsS P l.toArray j r st' K)
      (evS (st.kill d) fun st' => evN (i + 1) fun j => dopsS P l.toArray j r st' K) := by
  rw [← List.getElem?_toArray]
  simp only [dopsS, guardK]
  congr 1; funext e; congr 1; funext p
  unfold guardP
  refine propext ?_
  split
  · rename_i u
    cases t <;> cases u <;> simp only [ifK_true, ifK_false, evS_eq, evN_eq, Option.some.injEq, reduceCtorEq, forall_const, false_implies, ne_eq, not_true_eq_false, not_false_eq_true, true_and, and_true] 
  · simp only [reduceCtorEq, false_implies, ne_eq, not_false_eq_true, forall_const, true_and, evS_eq, evN_eq]
  · rename_i h1 h2
    split
    · exact absurd rfl (h1 _)
    · exact absurd rfl h2
    · exact Iff.rfl
theorem p_region_t {id : Nat} {l : List Oper} : pwp P ⟨l0, noBar⟩ (.region id l.toArray true) st Q = evS st fun st => evN st.nx fun a => evN st.nt fun b => dops P l.toArray a b 0 l st (Q .normal) := propext Iff.rfl
def evL {α : Type} (l : List α) (K : List α → Prop) : Prop := K l
theorem evL_eq {α : Type} (l : List α) (K : List α → Prop) : evL l K = K l := propext Iff.rfl
/-- A region that isn't cut. -/
theorem p_region_o {id r k : Nat} {l : List Oper} (h : id ≠ r) : pwp P ⟨l0, oneBar r k⟩ (.region id l.toArray true) st Q = evS st fun st => evN st.nx fun a => evN st.nt fun b => dops P l.toArray a b 0 l st (Q .normal) := by
  simp only [pwp, oneBar, if_neg h]; rfl
/-- The region that is cut. -/
theorem p_bar {r k : Nat} {l : List Oper} (hb : barOk l.toArray k = true) (h : evS st fun st => evN st.nx fun a => evN st.nt fun b => evL (l.take k) fun l1 => dops P l.toArray a b 0 l1 st fun s => evS s fun s => evL ((l.drop k).take 1) fun l2 => dopsS P l.toArray 0 l2 s fun s => evS s fun s => evN s.nx fun a => evN s.nt fun b => evL (l.drop (k + 1)) fun l3 => dops P l.toArray a b (k + 1) l3 s (Q .normal)) :
    pwp P ⟨l0, oneBar r k⟩ (.region r l.toArray true) st Q := by
  obtain ⟨⟨o, ho, _⟩, _⟩ := bar_spec hb
  simp only [pwp, oneBar, if_true, if_pos (Array.getElem?_eq_some_iff.1 ho).1]
  exact ⟨hb, h⟩
/-- The region that is gone through place by place. -/
theorem p_expl {r k : Nat} {l : List Oper} (hk : l.length ≤ k) (h : evS st fun st => expl P l.toArray l0 st (Q .normal)) : pwp P ⟨l0, oneBar r k⟩ (.region r l.toArray true) st Q := by
  simp only [pwp, oneBar, if_true, if_neg (show ¬ k < l.toArray.size by simp; omega)]
  exact h
theorem p_region {id : Nat} {l : List Oper} : pwp P L (.region id l.toArray false) st Q = evS st fun st => dopsS P l.toArray 0 l st (Q .normal) := propext Iff.rfl
theorem p_seq {a b : Code} : pwp P L (.seq a b) st Q = pwp P L a st fun x st' => match x with
    | .normal => pwp P L b st' Q
    | x => Q x st' := propext Iff.rfl
theorem p_cond {c : Operand} {t e : Code} : pwp P L (.cond c t e) st Q = bindO (st.ev c) fun p => boolK p fun b => ifK b (pwp P L t st Q) (pwp P L e st Q) := propext Iff.rfl
theorem p_block {id : Nat} {c : Code} : pwp P L (.block id c) st Q = pwp P L c st fun x st' => match x with
    | .exit i => if i = id then Q .normal st' else Q (.exit i) st'
    | x => Q x st' := propext Iff.rfl
theorem p_scope {c : Code} : pwp P L (.scope c) st Q = pwp P L c st fun x st' => match x with
    | .goto _ => False
    | x => Q x st' := propext Iff.rfl
theorem p_label {l : Nat} : pwp P L (.label l) st Q = Q .normal st := propext Iff.rfl
theorem p_exit {id : Nat} : pwp P L (.exit id) st Q = Q (.exit id) st := propext Iff.rfl
theorem p_ret : pwp P L .ret st Q = Q .ret st := propext Iff.rfl
theorem p_skip : pwp P L .skip st Q = Q .normal st := propext Iff.rfl
theorem p_seq_k {a b : Code} (h : ∀ K : PS → Prop, (∀ st, pwp P L b st Q → K st) → pwp P L a st (fun x st' => match x with | .normal => K st' | x => Q x st')) : pwp P L (.seq a b) st Q := h _ (fun _ h => h)
/-- A loop: the states at the heads of its rounds, by an index whose measure falls. -/
theorem p_loop {c : Code} {ι : Type} (I : ι → PS) (m : ι → Nat) (i0 : ι) (h0 : Weak L.l st (I i0)) (h : ∀ i, pwp P L c (I i) fun x st' => match x with
    | .normal => ∃ j, m j < m i ∧ Weak L.l st' (I j)
    | x => Q x st') : pwp P L (.loop c) st Q := ⟨ι, I, m, i0, h0, h⟩
end

/-! ### the operations -/
section
variable {dr : Bool} {P : Program} {st : PS} {id tk : Nat} {K : PS → Prop} {d : Option Tmp} {ty : TypeId} {pos : String} {af : Array Edge} {g : Option (Nat × Bool)}
theorem s_move {x : Operand} : stepN dr P ⟨d, .move x, ty, pos, af, g⟩ st id tk K = bindO (st.ev x) fun p => K (st.put d p) := propext Iff.rfl
theorem s_assign {x : Operand} : stepN dr P ⟨d, .assign x, ty, pos, af, g⟩ st id tk K = bindO (st.ev x) fun p => K (st.put d p) := propext Iff.rfl
theorem s_pick {c a b : Operand} : stepN dr P ⟨d, .pick c a b, ty, pos, af, g⟩ st id tk K = bindO (st.ev c) fun p => boolK p fun t => ifK t (bindO (st.ev a) fun p => K (st.put d p)) (bindO (st.ev b) fun p => K (st.put d p)) := propext Iff.rfl
theorem s_load {t : TypeId} {x : Operand} : stepN dr P ⟨d, .load t x, ty, pos, af, g⟩ st id tk K = loadK P st t x fun p => K (st.put d p) := propext Iff.rfl
theorem s_build {t : TypeId} {l : List (Nat × Operand)} : stepN dr P ⟨d, .build t l.toArray, ty, pos, af, g⟩ st id tk K = buildK P st t l fun p => K (st.put d p) := propext Iff.rfl
theorem s_binOp {op : BinOp} {t u : TypeId} {x y : Operand} : stepN dr P ⟨d, .binOp op t x y u, ty, pos, af, g⟩ st id tk K = binK P st op t x y fun p => K (st.put d p) := propext Iff.rfl
theorem s_unOp {op : UnOp} {t : TypeId} {x : Operand} : stepN dr P ⟨d, .unOp op t x, ty, pos, af, g⟩ st id tk K = bindO (st.ev x) fun p => unK op p fun p => K (st.put d p) := propext Iff.rfl
theorem s_convert {s t : TypeId} {x : Operand} : stepN dr P ⟨d, .convert s t x, ty, pos, af, g⟩ st id tk K = bindO (st.ev x) fun p => convK P s t p fun p => K (st.put d p) := propext Iff.rfl
theorem s_slice {t : TypeId} {x : Operand} {lo hi : Option Operand} : stepN dr P ⟨d, .slice t x lo hi none, ty, pos, af, g⟩ st id tk K = sliceK P st t x lo hi fun p => K (st.put d p) := propext Iff.rfl
theorem s_fieldAddr {t : TypeId} {x : Operand} {f : Nat} : stepN dr P ⟨d, .fieldAddr t x f, ty, pos, af, g⟩ st id tk K = fieldAddrK P st t x f fun p => K (st.put d p) := propext Iff.rfl
theorem s_field {t : TypeId} {x : Operand} {f : Nat} : stepN dr P ⟨d, .field t x f, ty, pos, af, g⟩ st id tk K = fieldK P st t x f fun p => K (st.put d p) := propext Iff.rfl
theorem s_indexAddr {t : TypeId} {x i : Operand} : stepN dr P ⟨d, .indexAddr t x i, ty, pos, af, g⟩ st id tk K = indexAddrK P st t x i fun p => K (st.put d p) := propext Iff.rfl
theorem s_index {t : TypeId} {x i : Operand} : stepN dr P ⟨d, .index t x i, ty, pos, af, g⟩ st id tk K = indexK P st t x i fun p => K (st.put d p) := propext Iff.rfl
theorem s_extract {x : Operand} {i : Nat} : stepN dr P ⟨d, .extract x i, ty, pos, af, g⟩ st id tk K = bindO (st.ev x) fun p => match p with
    | .tup cs => bindO cs[i]? fun p => K (st.put d p)
    | _ => False := propext Iff.rfl
theorem s_makeFunc {f : FuncId} {l : List Operand} : stepN dr P ⟨d, .makeFunc (.func f) #[] l.toArray, ty, pos, af, g⟩ st id tk K = bindO (evAll st l) fun cs => K (st.put d (.fn f cs)) := by
  refine propext ⟨fun h => ?_, fun h => ?_⟩
  · exact h.2
  · exact ⟨rfl, h⟩
theorem s_makeIface {t : TypeId} {x : Operand} {u : TypeDesc} (hu : P.underlying t = some u) (hn : notIface u = true) : stepN dr P ⟨d, .makeInterface t x, ty, pos, af, g⟩ st id tk K = bindO (st.ev x) fun p => K (st.put d (.iface t p)) := by
  have e : stepN dr P ⟨d, .makeInterface t x, ty, pos, af, g⟩ st id tk K = bindO (P.underlying t) fun u => notIface u = true ∧ bindO (st.ev x) fun p => K (st.put d (.iface t p)) := propext Iff.rfl
  rw [e, hu]
  exact propext ⟨fun h => h.2, fun h => ⟨hn, h⟩⟩
theorem s_nilCheck {x : Operand} : stepN dr P ⟨d, .nilCheck x, ty, pos, af, g⟩ st id tk K = bindO (st.ev x) fun p => match p with
    | .ptr _ _ => K (st.put d p)
    | .fp _ => K (st.put d p)
    | .fn _ _ => K (st.put d p)
    | _ => False := propext Iff.rfl
theorem s_len {x : Operand} {t : TypeId} : stepN dr P ⟨d, .call ⟨.builtin .len, #[x], #[t]⟩, ty, pos, af, g⟩ st id tk K = lenK P st t x fun p => K (st.put d p) := propext Iff.rfl
theorem s_max {x y : Operand} {ts : Array TypeId} : stepN dr P ⟨d, .call ⟨.builtin .max, #[x, y], ts⟩, ty, pos, af, g⟩ st id tk K = bindO (st.ev x) fun p => bindO (st.ev y) fun q => max2K true p q fun p => K (st.put d p) := propext Iff.rfl
theorem s_min {x y : Operand} {ts : Array TypeId} : stepN dr P ⟨d, .call ⟨.builtin .min, #[x, y], ts⟩, ty, pos, af, g⟩ st id tk K = bindO (st.ev x) fun p => bindO (st.ev y) fun q => max2K false p q fun p => K (st.put d p) := propext Iff.rfl
theorem s_append {x y : Operand} {t t' : TypeId} : stepN dr P ⟨d, .call ⟨.builtin .append, #[x, y], #[t, t']⟩, ty, pos, af, g⟩ st id tk K = appendK P st tk ⟨.builtin .append, #[x, y], #[t, t']⟩ fun δ => K (δ.apply d st) := propext Iff.rfl
theorem s_call {f : Operand} {l : List Operand} {ts : Array TypeId} : stepN dr P ⟨d, .call ⟨.value f, l.toArray, ts⟩, ty, pos, af, g⟩ st id tk K = bindO (st.ev f) fun pf => match pf with
    | .fn g caps => bindO (evAll st l) fun as => CallOk dr P g (as ++ caps) st id tk fun p st' => K (st'.put d p)
    | _ => False := propext Iff.rfl
theorem s_invoke {x : Operand} {m : String} {l : List Operand} {ts : Array TypeId} : stepN dr P ⟨d, .call ⟨.invoke x m, l.toArray, ts⟩, ty, pos, af, g⟩ st id tk K = bindO (st.ev x) fun p => match p with
    | .iface T (.ptr i off) => bindO (evAll st l) fun as => dr = false ∧ InvOk P T m i off as st id tk fun p st' => K (st'.put d p)
    | _ => False := propext Iff.rfl
theorem s_alloc {T : TypeId} : stepN dr P ⟨d, .alloc T, ty, pos, af, g⟩ st id tk K = bindO (zeroOf? P T) fun z => constOk z = true ∧ K (PS.put { st with heap := (id, .box T (constPV z).cells) :: st.heap } d (.ptr id 0)) := propext Iff.rfl
theorem s_allocC {T : TypeId} {z : Value} {cs : List PV} (hz : zeroOf? P T = some z) (hc : constOk z = true) (hp : (constPV z).cells = cs) : stepN dr P ⟨d, .alloc T, ty, pos, af, g⟩ st id tk K = K (PS.put { st with heap := (id, .box T cs) :: st.heap } d (.ptr id 0)) := by
  rw [s_alloc, hz, b_some, hp]
  exact propext ⟨fun h => h.2, fun h => ⟨hc, h⟩⟩
theorem s_box {T : TypeId} {x : Operand} : stepN dr P ⟨d, .box T x, ty, pos, af, g⟩ st id tk K = bindO (st.ev x) fun p => notTup p = true ∧ K (PS.put { st with heap := (id, .box T p.cells) :: st.heap } d (.ptr id 0)) := propext Iff.rfl
theorem s_store {t : TypeId} {x y : Operand} : stepN dr P ⟨d, .store t x y, ty, pos, af, g⟩ st id tk K = bindO (st.ev x) fun p => bindO (st.ev y) fun q => match p with
    | .ptr id1 off => bindO (lkp st.heap id1) fun ob => match ob with
      | .box T cs => sizeOf? P t = some q.cells.length ∧ notTup q = true ∧ off + q.cells.length ≤ cs.length ∧
        K (PS.kill { st with heap := upd st.heap id1 (.box T (cs.take off ++ q.cells ++ cs.drop (off + q.cells.length))) } d)
      | _ => False
    | _ => False := propext Iff.rfl
theorem s_buildSlice {t e : TypeId} {n sz : Nat} {z : Value} {l : List (Nat × Operand)} (hu : P.underlying t = some (.slice e)) (hs : sizeOf? P e = some sz) (hz : zeroOf? P e = some z) (h0 : 0 < sz) (hzs : z.cells.size = sz) :
    stepN dr P ⟨d, .buildSlice t n l.toArray, ty, pos, af, g⟩ st id tk K = bindO (evParts st l) fun ps => bindO (valsOf ps 0) fun xs => (∀ x ∈ xs, x.length = sz) ∧ xs.length = n ∧ n * sz ≤ 16777216 ∧ K (PS.put { st with toks := upd st.toks tk ⟨e, sz, n⟩ } d (.row tk xs)) := by
  refine propext ⟨fun h => ?_, fun h => ?_⟩
  · simp only [stepN, stepN0, stepD, hu, hs, hz, b_some] at h
    replace h := bindO_elim h
    obtain ⟨ps, hps, h⟩ := h
    replace h := bindO_elim h
    obtain ⟨xs, hxs, _, _, h1, h2, h3, h4⟩ := h
    rw [show evParts st l = some ps from hps, b_some, hxs, b_some]
    exact ⟨h1, h2, h3, h4⟩
  · replace h := bindO_elim h
    obtain ⟨ps, hps, h⟩ := h
    replace h := bindO_elim h
    obtain ⟨xs, hxs, h1, h2, h3, h4⟩ := h
    simp only [stepN, stepN0, stepD, hu, hs, hz, b_some, hps, hxs]
    exact ⟨h0, hzs, h1, h2, h3, h4⟩
end

/-! ### typed -/
section
variable {P : Program} {st : PS} {K : PV → Prop}
theorem len_sl {t e : TypeId} {x : Operand} {xs : List (List PV)} (hu : P.underlying t = some (.slice e)) (h : st.ev x = some (.sl xs)) : lenK P st t x K = K (.val (.int .i64 xs.length)) := by
  unfold lenK
  rw [hu]
  simp only [h, b_some]
theorem len_row {t e : TypeId} {x : Operand} {k : Nat} {xs : List (List PV)} (hu : P.underlying t = some (.slice e)) (h : st.ev x = some (.row k xs)) : lenK P st t x K = K (.val (.int .i64 xs.length)) := by
  unfold lenK
  rw [hu]
  simp only [h, b_some]
def lenP (K : PV → Prop) : PV → Prop
  | .sl xs => K (.val (.int .i64 xs.length))
  | .row _ xs => K (.val (.int .i64 xs.length))
  | .val (.slice none 0 0) => K (.val (.int .i64 0))
  | .ms _ _ m _ => K (.val (.int .i64 m))
  | _ => False
theorem len_slice {t e : TypeId} {x : Operand} (hu : P.underlying t = some (.slice e)) : lenK P st t x K = bindO (st.ev x) (lenP K) := by
  unfold lenK
  rw [hu]
  cases st.ev x with
  | none => rfl
  | some p => simp only [b_some]; rfl
def lenS (K : PV → Prop) : PV → Prop
  | .val (.string s) => K (.val (.int .i64 s.size))
  | _ => False
theorem len_string {t : TypeId} {x : Operand} (hu : P.underlying t = some .string) : lenK P st t x K = bindO (st.ev x) (lenS K) := by
  unfold lenK
  rw [hu]
  cases st.ev x with
  | none => rfl
  | some p => simp only [b_some]; rfl
theorem len_array {t e : TypeId} {n : Nat} {x : Operand} (hu : P.underlying t = some (.array n e)) : lenK P st t x K = K (.val (.int .i64 n)) := by
  unfold lenK
  rw [hu]
def ixP (n : Nat) (i : Int) (K : PV → Prop) : PV → Prop
  | .sl xs => 0 ≤ i ∧ i < xs.length ∧ (xs.getD i.toNat []).length = n ∧ K (.fp (xs.getD i.toNat []))
  | .row _ xs => 0 ≤ i ∧ i < xs.length ∧ (xs.getD i.toNat []).length = n ∧ K (.fp (xs.getD i.toNat []))
  | .ms id l0 m _ => 0 ≤ i ∧ i < m ∧ K (.ptr id (l0 + i.toNat * n))
  | _ => False
theorem ix_slice {t e : TypeId} {n : Nat} {x y : Operand} (hu : P.underlying t = some (.slice e)) (hs : sizeOf? P e = some n) : indexAddrK P st t x y K = bindO (st.ev x) fun p => bindO (st.ev y) fun q => intK q fun i => ixP n i K p := by
  unfold indexAddrK
  rw [hu]
  simp only [hs, b_some]
  cases st.ev x with
  | none => rfl
  | some p => simp only [b_some]; rfl
def ixA (n m : Nat) (i : Int) (K : PV → Prop) : PV → Prop
  | .ptr id off => 0 ≤ i ∧ i < m ∧ K (.ptr id (off + i.toNat * n))
  | _ => False
theorem ix_array {t e : TypeId} {n m : Nat} {x y : Operand} (hu : P.underlying t = some (.array m e)) (hs : sizeOf? P e = some n) : indexAddrK P st t x y K = bindO (st.ev x) fun p => bindO (st.ev y) fun q => intK q fun i => ixA n m i K p := by
  unfold indexAddrK
  rw [hu]
  simp only [hs, b_some]
  cases st.ev x with
  | none => rfl
  | some p => simp only [b_some]; rfl
def ixS (i : Int) (K : PV → Prop) : PV → Prop
  | .val (.string s) => 0 ≤ i ∧ i < s.size ∧ K (.val (.int .u8 (bt s i)))
  | _ => False
theorem ix_string {t : TypeId} {x y : Operand} (hu : P.underlying t = some .string) : indexK P st t x y K = bindO (st.ev x) fun p => bindO (st.ev y) fun q => intK q fun i => ixS i K p := by
  unfold indexK
  rw [hu]
  cases st.ev x with
  | none => rfl
  | some p => simp only [b_some]; rfl
def loadP (P : Program) (t : TypeId) (st : PS) (K : PV → Prop) : PV → Prop
  | .ptr id off => bindO (lkp st.heap id) fun o => match o with
    | .box _ cs => bindO (readCells P t cs off) K
    | _ => False
  | .fp cs => bindO (readCells P t cs 0) K
  | _ => False
theorem load_ {t : TypeId} {x : Operand} : loadK P st t x K = bindO (st.ev x) (loadP P t st K) := by
  unfold loadK
  cases st.ev x with
  | none => rfl
  | some p => simp only [b_some]; rfl
theorem load_ptr {t : TypeId} {id off : Nat} : loadP P t st K (.ptr id off) = bindO (lkp st.heap id) fun o => match o with
    | .box _ cs => bindO (readCells P t cs off) K
    | _ => False := propext Iff.rfl
theorem load_fp {t : TypeId} {cs : List PV} : loadP P t st K (.fp cs) = bindO (readCells P t cs 0) K := propext Iff.rfl
theorem rd_one {t : TypeId} {cs : List PV} {off : Nat} (h : aggT P t = some false) : readCells P t cs off = cs[off]? := by
  unfold readCells
  rw [h]
theorem rd_agg {t : TypeId} {cs : List PV} {off n : Nat} (h : aggT P t = some true) (hs : sizeOf? P t = some n) : readCells P t cs off = if off + n ≤ cs.length then some (.agg ((cs.drop off).take n)) else none := by
  unfold readCells
  rw [h]
  simp only [hs]
def slcP (n : Nat) (st : PS) (lo hi : Option Operand) (K : PV → Prop) : PV → Prop
  | .sl xs => boundsK st lo hi xs.length fun l h => (lo = none ∨ ∀ x ∈ xs, x.length = n) ∧ K (.sl ((xs.take h).drop l))
  | .row _ xs => boundsK st lo hi xs.length fun l h => (lo = none ∨ ∀ x ∈ xs, x.length = n) ∧ K (.sl ((xs.take h).drop l))
  | .val (.slice none 0 0) => boundsK st lo hi 0 fun l h => K (.val (.slice none 0 0))
  | .ms id l0 m cap => boundsK st lo hi m fun l h => lo = none ∧ K (.ms id l0 h cap)
  | _ => False
theorem slc_slice {t e : TypeId} {n : Nat} {x : Operand} {lo hi : Option Operand} (hu : P.underlying t = some (.slice e)) (hs : sizeOf? P e = some n) : sliceK P st t x lo hi K = bindO (st.ev x) (slcP n st lo hi K) := by
  unfold sliceK
  rw [hu]
  simp only [hs, b_some]
  cases st.ev x with
  | none => rfl
  | some p => simp only [b_some]; rfl
def slcS (st : PS) (lo hi : Option Operand) (K : PV → Prop) : PV → Prop
  | .val (.string s) => boundsK st lo hi s.size fun l h => K (.val (.string (s.extract l h)))
  | _ => False
theorem slc_string {t : TypeId} {x : Operand} {lo hi : Option Operand} (hu : P.underlying t = some .string) : sliceK P st t x lo hi K = bindO (st.ev x) (slcS st lo hi K) := by
  unfold sliceK
  rw [hu]
  cases st.ev x with
  | none => rfl
  | some p => simp only [b_some]; rfl
theorem bd_nn {len : Nat} {K : Nat → Nat → Prop} : boundsK st none none len K = K 0 len := propext Iff.rfl
theorem bd_sn {l : Operand} {len : Nat} {K : Nat → Nat → Prop} : boundsK st (some l) none len K = bindO (st.ev l) fun p => intK p fun i => 0 ≤ i ∧ i ≤ len ∧ K i.toNat len := propext Iff.rfl
theorem bd_ns {h : Operand} {len : Nat} {K : Nat → Nat → Prop} : boundsK st none (some h) len K = bindO (st.ev h) fun q => intK q fun j => 0 ≤ j ∧ j ≤ len ∧ K 0 j.toNat := propext Iff.rfl
theorem bd_ss {l h : Operand} {len : Nat} {K : Nat → Nat → Prop} : boundsK st (some l) (some h) len K = bindO (st.ev l) fun p => intK p fun i => bindO (st.ev h) fun q => intK q fun j => 0 ≤ i ∧ i ≤ j ∧ j ≤ len ∧ K i.toNat j.toNat := propext Iff.rfl
def fldP (off : Nat) (K : PV → Prop) : PV → Prop
  | .ptr id o => K (.ptr id (o + off))
  | .fp cs => K (.fp (cs.drop off))
  | _ => False
theorem fld_ {s : TypeId} {fs : Array Field} {fd : Field} {n f : Nat} {x : Operand} (hu : P.underlying s = some (.struct fs)) (hf : fs[f]? = some fd) (hs : sizeOf? P fd.type = some n) (hn : n ≠ 0) :
    fieldAddrK P st s x f K = bindO (st.ev x) (fldP fd.offset K) := by
  unfold fieldAddrK
  rw [hu]
  simp only [hf, b_some, hs]
  refine propext ⟨fun h => ?_, fun h => ⟨hn, ?_⟩⟩
  · cases hx : st.ev x with
    | none => rw [hx] at h; exact h.2
    | some p => rw [hx] at h; exact h.2
  · cases hx : st.ev x with
    | none => rw [hx] at h; exact h
    | some p => rw [hx] at h; exact h
def fieldP (P : Program) (t : TypeId) (off : Nat) (K : PV → Prop) : PV → Prop
  | .agg cs => bindO (readCells P t cs off) K
  | _ => False
theorem field_ {s : TypeId} {fs : Array Field} {fd : Field} {f : Nat} {x : Operand} (hu : P.underlying s = some (.struct fs)) (hf : fs[f]? = some fd) :
    fieldK P st s x f K = bindO (st.ev x) (fieldP P fd.type fd.offset K) := by
  unfold fieldK
  rw [hu]
  simp only [hf, b_some]
  cases st.ev x with
  | none => rfl
  | some p => simp only [b_some]; rfl
theorem fieldP_agg {t : TypeId} {off : Nat} {K : PV → Prop} {cs : List PV} : fieldP P t off K (.agg cs) = bindO (readCells P t cs off) K := propext Iff.rfl
theorem s_makeSlice {dr : Bool} {id tk : Nat} {K : PS → Prop} {d : Option Tmp} {ty : TypeId} {pos : String} {af : Array Edge} {g : Option (Nat × Bool)} {t e : TypeId} {l c : Operand} {sz by_ : Nat} {z : Value} {zc : List PV}
    (hu : P.underlying t = some (.slice e)) (hs : sizeOf? P e = some sz) (hb : bytesOf? P e = some by_) (hz : zeroOf? P e = some z) (hc : constOk z = true) (hzs : z.cells.size = sz) (h0 : 0 < sz) (hzc : (constPV z).cells = zc) :
    stepN dr P ⟨d, .makeSlice t l c, ty, pos, af, g⟩ st id tk K = bindO (st.ev l) fun p => bindO (st.ev c) fun q => intK p fun n => intK q fun m => n = m ∧ 0 ≤ n ∧ n ≤ 9223372036854775807 ∧ by_ * n ≤ 281474976710656 ∧
      K (PS.put { st with heap := (id, .box e ((List.range (n.toNat * sz)).map fun i => zc.getD (i % sz) (.val .nilIface))) :: st.heap } d (.ms id 0 n.toNat n.toNat)) := by
  subst hzc
  refine propext ⟨fun h => ?_, fun h => ?_⟩
  · simp only [stepN, stepN0, stepD, hu, hs, hb, hz, b_some] at h
    replace h := bindO_elim h
    obtain ⟨p, hp, h⟩ := h
    replace h := bindO_elim h
    obtain ⟨q, hq, h⟩ := h
    rw [hp, b_some, hq, b_some]
    unfold intK at h ⊢
    split at h
    · split at h
      · obtain ⟨_, _, _, h1, h2, h3, h4, h5⟩ := h
        exact ⟨h1, h2, h3, h4, h5⟩
      · exact h.elim
    · exact h.elim
  · replace h := bindO_elim h
    obtain ⟨p, hp, h⟩ := h
    replace h := bindO_elim h
    obtain ⟨q, hq, h⟩ := h
    simp only [stepN, stepN0, stepD, hu, hs, hb, hz, b_some, hp, hq]
    unfold intK at h ⊢
    split at h
    · split at h
      · obtain ⟨h1, h2, h3, h4, h5⟩ := h
        exact ⟨hc, hzs, h0, h1, h2, h3, h4, h5⟩
      · exact h.elim
    · exact h.elim
/-- A struct's literal, all of its fields said in line. -/
theorem build_ {t : TypeId} {fs : Array Field} {z : Value} {pl : List (Nat × Nat)} {l : List (Nat × Operand)} (hu : P.underlying t = some (.struct fs)) (hz : zeroOf? P t = some z) (hp : placesOf P fs.toList = some pl) (hc : constOk z = true) :
    buildK P st t l K = bindO (evParts st l) fun ps => (ps.all fun e => match e.2 with | .tup _ => false | _ => true) = true ∧ bindO (fillP (fun i => pl[i]?) (constPV z).cells ps) fun cs => K (.agg cs) := by
  unfold buildK
  rw [hu]
  simp only [hz, b_some, hp, hc, true_and]
  rfl
end
theorem wrap64 {x : Int} (h1 : -9223372036854775808 ≤ x) (h2 : x ≤ 9223372036854775807) : IntKind.wrap .i64 x = x := by
  rw [IntKind.wrap_i64]; omega
theorem wrap8 {x : Int} (h1 : 0 ≤ x) (h2 : x ≤ 255) : IntKind.wrap .u8 x = x := by
  rw [IntKind.wrap_u8]; omega
theorem wrap32 {x : Int} (h1 : -2147483648 ≤ x) (h2 : x ≤ 2147483647) : IntKind.wrap .i32 x = x := by
  rw [IntKind.wrap_i32]; omega
theorem buildC {P : Program} {st : PS} {K : PV → Prop} {t : TypeId} {fs : Array Field} {z : Value} {pl : List (Nat × Nat)} {l : List (Nat × Operand)} {cs0 : List PV} (hu : P.underlying t = some (.struct fs)) (hz : zeroOf? P t = some z) (hp : placesOf P fs.toList = some pl) (hc : constOk z = true) (hcs : (constPV z).cells = cs0) :
    buildK P st t l K = bindO (evParts st l) fun ps => (ps.all fun e => match e.2 with | .tup _ => false | _ => true) = true ∧ bindO (fillP (fun i => pl[i]?) cs0 ps) fun cs => K (.agg cs) := by
  rw [build_ hu hz hp hc, hcs]
/-- An array's literal. -/
theorem buildA {P : Program} {st : PS} {K : PV → Prop} {t e : TypeId} {m n : Nat} {z : Value} {l : List (Nat × Operand)} {cs0 : List PV} (hu : P.underlying t = some (.array m e)) (hz : zeroOf? P t = some z) (hs : sizeOf? P e = some n) (hc : constOk z = true) (hcs : (constPV z).cells = cs0) :
    buildK P st t l K = bindO (evParts st l) fun ps => (ps.all fun e => match e.2 with | .tup _ => false | _ => true) = true ∧ bindO (fillP (fun i => some (i * n, n)) cs0 ps) fun cs => K (.agg cs) := by
  unfold buildK
  rw [hu]
  simp only [hz, b_some, hs, hc, true_and, hcs]
  rfl
def appT (e : TypeId) (sz by_ : Nat) (st : PS) (tk0 : Nat) (K : Delta → Prop) (d : PV) : List (List PV) → Prop
  | [] => sliceLike d = true ∧ K (.val d)
  | y0 :: r => match d with
    | .val (.slice none 0 0) => (y0 :: r).length * by_ ≤ 140737488355328 ∧ (y0 :: r).length ≤ 9223372036854775807 ∧
      K ⟨none, some (tk0, ⟨e, sz, (y0 :: r).length⟩), some (.row tk0 (y0 :: r))⟩
    | .row k xs => bindO (lkp st.toks k) fun tk => tk.n = xs.length ∧ tk.e = e ∧ tk.sz = sz ∧ (xs.length + (y0 :: r).length) * by_ ≤ 140737488355328 ∧ xs.length + (y0 :: r).length ≤ 9223372036854775807 ∧
      K ⟨none, some (k, ⟨e, sz, xs.length + (y0 :: r).length⟩), some (.row k (xs ++ (y0 :: r)))⟩
    | .ms id lo n cap => n = cap ∧ bindO (srcXs st sz (.ms id lo n cap)) fun xs0 => bindO (fzLL xs0) fun xs => (∀ x ∈ xs, x.length = sz) ∧ (xs.length + (y0 :: r).length) * by_ ≤ 140737488355328 ∧ xs.length + (y0 :: r).length ≤ 9223372036854775807 ∧
      K ⟨none, some (tk0, ⟨e, sz, xs.length + (y0 :: r).length⟩), some (.row tk0 (xs ++ (y0 :: r)))⟩
    | _ => False
theorem appTail_eq {st : PS} {tk0 sz by_ : Nat} {e : TypeId} {d : PV} {ys : List (List PV)} {K : Delta → Prop} : appTail st tk0 e sz by_ d ys K = appT e sz by_ st tk0 K d ys := by
  cases ys <;> rfl
theorem append_t {P : Program} {st : PS} {t e : TypeId} {sz by_ tk : Nat} {z : Value} {x y : Operand} {K : Delta → Prop} (hu : P.underlying t = some (.slice e)) (hs : sizeOf? P e = some sz) (hb : bytesOf? P e = some by_) (hz : zeroOf? P e = some z) (hzs : z.cells.size = sz) (h0 : 0 < sz) :
    appendK P st tk ⟨.builtin .append, #[x, y], #[t, t]⟩ K = bindO (st.ev x) fun d => bindO (st.ev y) fun s => bindO (srcXs st sz s) fun ys0 => bindO (fzLL ys0) fun ys => (∀ y ∈ ys, y.length = sz) ∧ appT e sz by_ st tk K d ys := by
  unfold appendK
  refine propext ⟨fun h => ?_, fun h => ?_⟩
  · simp only [hu, hs, hb, hz, b_some] at h
    obtain ⟨_, _, h⟩ := h
    replace h := bindO_elim h
    obtain ⟨d, hd, h⟩ := h
    replace h := bindO_elim h
    obtain ⟨s, hs', h⟩ := h
    rw [hd, b_some, hs', b_some]
    split at h
    · cases h.1
    · obtain ⟨_, h⟩ := h
      replace h := bindO_elim h
      obtain ⟨ys0, h1, h⟩ := h
      replace h := bindO_elim h
      obtain ⟨ys, h2, h3, h⟩ := h
      rw [h1, b_some, h2, b_some]
      exact ⟨h3, appTail_eq ▸ h⟩
  · simp only [hu, hs, hb, hz, b_some]
    refine ⟨hzs, h0, ?_⟩
    replace h := bindO_elim h
    obtain ⟨d, hd, h⟩ := h
    replace h := bindO_elim h
    obtain ⟨s, hs', h⟩ := h
    rw [hd, b_some, hs', b_some]
    replace h := bindO_elim h
    obtain ⟨ys0, h1, h⟩ := h
    split
    · cases h1
    · refine ⟨trivial, ?_⟩
      replace h := bindO_elim h
      obtain ⟨ys, h2, h3, h⟩ := h
      rw [h1, b_some, h2, b_some]
      exact ⟨h3, appTail_eq ▸ h⟩
/-- A text's bytes behind a row. -/
def appS (e : TypeId) (by_ : Nat) (st : PS) (tk0 : Nat) (K : Delta → Prop) (d : PV) : PV → Prop
  | .val (.string s) => appT e 1 by_ st tk0 K d (encS s)
  | _ => False
theorem append_s {P : Program} {st : PS} {t t' e : TypeId} {by_ tk : Nat} {x y : Operand} {K : Delta → Prop} (hu : P.underlying t = some (.slice e)) (hu' : P.underlying t' = some .string) (hs : sizeOf? P e = some 1) (hb : bytesOf? P e = some by_) (hz : zeroOf? P e = some (.int .u8 0)) :
    appendK P st tk ⟨.builtin .append, #[x, y], #[t, t']⟩ K = bindO (st.ev x) fun d => bindO (st.ev y) fun s => appS e by_ st tk K d s := by
  have hne : t ≠ t' := fun h => by rw [← h, hu] at hu'; cases hu'
  unfold appendK
  refine propext ⟨fun h => ?_, fun h => ?_⟩
  · simp only [hu, hs, hb, hz, b_some] at h
    obtain ⟨_, _, h⟩ := h
    replace h := bindO_elim h
    obtain ⟨d, hd, h⟩ := h
    replace h := bindO_elim h
    obtain ⟨s, hs', h⟩ := h
    rw [hd, b_some, hs', b_some]
    split at h
    · have h := h.2.2.2
      rw [appTail_eq] at h
      exact h
    · exact absurd h.1 hne
  · simp only [hu, hs, hb, hz, b_some]
    refine ⟨rfl, by decide, ?_⟩
    replace h := bindO_elim h
    obtain ⟨d, hd, h⟩ := h
    replace h := bindO_elim h
    obtain ⟨s, hs', h⟩ := h
    rw [hd, b_some, hs', b_some]
    unfold appS at h
    split at h
    · exact ⟨hu', trivial, trivial, appTail_eq ▸ h⟩
    · exact h.elim
def rngP (id : Nat) (d : Option Tmp) (st : PS) (K : PS → Prop) : PV → Prop
  | .val (.string s) => K (PS.put { st with heap := (id, .iter s 0) :: st.heap } d (.ptr id 0))
  | _ => False
theorem s_range {dr : Bool} {P : Program} {st : PS} {id tk : Nat} {K : PS → Prop} {d : Option Tmp} {ty : TypeId} {pos : String} {af : Array Edge} {g : Option (Nat × Bool)} {t : TypeId} {x : Operand} (hu : P.underlying t = some .string) :
    stepN dr P ⟨d, .range t x, ty, pos, af, g⟩ st id tk K = bindO (st.ev x) (rngP id d st K) := by
  refine propext ⟨fun h => ?_, fun h => ?_⟩
  · have h2 := h.2
    replace h2 := bindO_elim h2
    obtain ⟨p, hp, h2⟩ := h2
    rw [hp, b_some]
    unfold rngP
    split at h2
    · exact h2
    · exact h2.elim
  · refine ⟨hu, ?_⟩
    replace h := bindO_elim h
    obtain ⟨p, hp, h⟩ := h
    rw [hp, b_some]
    unfold rngP at h
    split at h
    · exact h
    · exact h.elim
def nxtP (d : Option Tmp) (st : PS) (K : PS → Prop) : PV → Prop
  | .ptr id1 0 => bindO (lkp st.heap id1) fun ob => match ob with
    | .iter s pos => ifK (decide (pos < s.size)) (K (PS.put { st with heap := upd st.heap id1 (.iter s (pos + (Utf8.decode s pos).2)) } d (.tup [.val (.bool true), .val (.int .i64 pos), .val (.int .i32 (Utf8.decode s pos).1)])))
        (K (st.put d (.tup [.val (.bool false)])))
    | _ => False
  | _ => False
theorem s_next {dr : Bool} {P : Program} {st : PS} {id tk : Nat} {K : PS → Prop} {d : Option Tmp} {ty : TypeId} {pos : String} {af : Array Edge} {g : Option (Nat × Bool)} {x : Operand} :
    stepN dr P ⟨d, .next x true, ty, pos, af, g⟩ st id tk K = bindO (st.ev x) (nxtP d st K) := by
  have key : ∀ (n : Nat) (s : ByteArray) (A B : Prop), ((n < s.size → A) ∧ (s.size ≤ n → B)) = ifK (decide (n < s.size)) A B := fun n s A B => by
    unfold ifK
    simp only [decide_eq_true_eq, decide_eq_false_iff_not, Nat.not_lt]
  refine propext ⟨fun h => ?_, fun h => ?_⟩
  · replace h := bindO_elim h
    obtain ⟨p, hp, h⟩ := h
    rw [hp, b_some]
    unfold nxtP
    split at h
    · replace h := bindO_elim h
      obtain ⟨ob, hob, h⟩ := h
      simp only
      rw [hob, b_some]
      split at h
      · simp only
        rw [← key]
        exact h
      · exact h.elim
    · exact h.elim
  · replace h := bindO_elim h
    obtain ⟨p, hp, h⟩ := h
    show bindO (st.ev x) _
    rw [hp, b_some]
    unfold nxtP at h
    split at h
    · replace h := bindO_elim h
      obtain ⟨ob, hob, h⟩ := h
      simp only
      rw [hob, b_some]
      split at h
      · simp only
        rw [← key] at h
        exact h
      · exact h.elim
    · exact h.elim
theorem tok_T {c : Prop} [Decidable c] {a b : Option Tok} (h : c) : (if c then a else b) = a := if_pos h
theorem tok_F {c : Prop} [Decidable c] {a b : Option Tok} (h : ¬c) : (if c then a else b) = b := if_neg h
theorem toks_T {c : Prop} [Decidable c] {a b : List (Nat × Tok)} (h : c) : (if c then a else b) = a := if_pos h
theorem toks_F {c : Prop} [Decidable c] {a b : List (Nat × Tok)} (h : ¬c) : (if c then a else b) = b := if_neg h
theorem ob_T {c : Prop} [Decidable c] {a b : Option PObj} (h : c) : (if c then a else b) = a := if_pos h
theorem ob_F {c : Prop} [Decidable c] {a b : Option PObj} (h : ¬c) : (if c then a else b) = b := if_neg h
theorem obs_T {c : Prop} [Decidable c] {a b : List (Nat × PObj)} (h : c) : (if c then a else b) = a := if_pos h
theorem obs_F {c : Prop} [Decidable c] {a b : List (Nat × PObj)} (h : ¬c) : (if c then a else b) = b := if_neg h
theorem and_dT {p q : Prop} (h : p) : (p ∧ q) = q := propext ⟨fun h => h.2, fun k => ⟨h, k⟩⟩
theorem CallOk.of {dr : Bool} {P : Program} {g : FuncId} {as as' : List PV} {st : PS} {id tk : Nat} {r : PV} {K : PV → PS → Prop} (ok : Ok P g as' r) (hf : fzAs as = some as') (k : K r st) : CallOk dr P g as st id tk K := .pure as' r hf ok k
theorem CallOk.of_ext {dr : Bool} {P : Program} {g : FuncId} {vs : List Value} {as : List PV} {st : PS} {id tk : Nat} {r : Value} {K : PV → PS → Prop} (ha : as = vs.map .val) (hr : ∀ w, (callFunc g vs.toArray).run P w = .ok (.value r) w) (ho : extOk r = true) (k : K (extPV r) st) : CallOk dr P g as st id tk K := .ext vs r ha hr ho k
theorem OkI.env_ {P : Program} {f : FuncId} {args : List PV} {st : PS} {Q : PV → PS → Prop} (h : OkI P f args st Q) (e : List (Nat × PV)) : OkI P f args { st with env := e } Q :=
  ⟨h.1, fun own S0 w0 w C vals R hn hr => h.2 own S0 w0 w C vals (R.env_ st.env) hn hr⟩
/-- A call of a function that works in this state's memory. -/
theorem CallOk.ofI {P : Program} {g : FuncId} {as : List PV} {st st0 : PS} {id tk : Nat} {Q : PV → PS → Prop} {K : PV → PS → Prop} (ok : OkI P g as st0 Q) (hh : st0.heap = st.heap) (ht : st0.toks = st.toks) (hx : st0.nx = id) (hy : st0.nt = tk)
    (k : ∀ r st1, Q r st1 → K r { st1 with env := st.env }) : CallOk false P g as st id tk K := by
  subst hx hy
  have e : ({ st with nx := st0.nx, nt := st0.nt } : PS) = { st0 with env := st.env } := by cases st; cases st0; simp_all
  exact .own rfl Q (by rw [e]; exact ok.env_ _) k
/-- A method through an interface. -/
theorem InvOk.of {P : Program} {T : TypeId} {m : String} {i off : Nat} {as : List PV} {st st0 : PS} {id tk : Nat} {K : PV → PS → Prop} {g : FuncId} {δ : Nat} {Q : PV → PS → Prop} (hd : DispOk P T m g δ) (ok : OkI P g (.ptr i (off + δ) :: as) st0 Q) (hh : st0.heap = st.heap) (ht : st0.toks = st.toks) (hx : st0.nx = id) (hy : st0.nt = tk)
    (k : ∀ r st1, Q r st1 → K r { st1 with env := st.env }) : InvOk P T m i off as st id tk K := by
  subst hx hy
  have e : ({ st with nx := st0.nx, nt := st0.nt } : PS) = { st0 with env := st.env } := by cases st; cases st0; simp_all
  exact .mk g δ Q hd (by rw [e]; exact ok.env_ _) k
theorem tdivE {a b : Int} (h : 0 ≤ a) : a.tdiv b = a / b := Int.tdiv_eq_ediv_of_nonneg h
theorem tmodE {a b : Int} (h : 0 ≤ a) : a.tmod b = a % b := Int.tmod_eq_emod_of_nonneg h
theorem put_some (st : PS) (t : Tmp) (p : PV) : st.put (some t) p = { st with env := (t, p) :: st.env } := rfl
theorem kill_none (st : PS) : st.kill none = st := rfl
theorem kill_some (st : PS) (t : Tmp) : st.kill (some t) = { st with env := (t, .tup []) :: st.env } := rfl
theorem ev_tmp (st : PS) (t : Tmp) : st.ev (.tmp t) = lkp st.env t := rfl
theorem ev_int (st : PS) (k : IntKind) (n : Int) : st.ev (.const (.int k n)) = some (.val (.int k n)) := rfl
theorem ev_bool (st : PS) (b : Bool) : st.ev (.const (.bool b)) = some (.val (.bool b)) := rfl
theorem ev_str (st : PS) (s : ByteArray) : st.ev (.const (.string s)) = some (.val (.string s)) := rfl
theorem ev_nil (st : PS) : st.ev (.const (.slice none 0 0)) = some (.val (.slice none 0 0)) := rfl
theorem ev_func (st : PS) (f : FuncId) : st.ev (.func f) = some (.fn f []) := rfl
/-- By this the rewriting sees a change where there is none, and leaves what comes later alone. -/
def hold {α : Type} (a : α) : α := a
theorem hold_eq {α : Type} (a : α) : hold a = a := by
  have h : hold a = a := by unfold hold; exact Eq.trans rfl rfl
  exact h.trans (Eq.refl a)
@[congr] theorem bindO_congr {α : Type} {o o' : Option α} {K : α → Prop} (h : hold o = o') : bindO o K = bindO o' K := by rw [← h]; rfl
@[congr] theorem intK_congr {p p' : PV} {K : Int → Prop} (h : hold p = p') : intK p K = intK p' K := by rw [← h]; rfl
@[congr] theorem ifK_congr {b b' : Bool} {A B : Prop} (h : hold b = b') : ifK b A B = ifK b' A B := by rw [← h]; rfl
@[congr] theorem boolK_congr {p p' : PV} {K : Bool → Prop} (h : hold p = p') : boolK p K = boolK p' K := by rw [← h]; rfl
@[congr] theorem evS_congr {s s' : PS} {K : PS → Prop} (h : hold s = s') : evS s K = evS s' K := by rw [← h]; rfl
@[congr] theorem evN_congr {s s' : Nat} {K : Nat → Prop} (h : hold s = s') : evN s K = evN s' K := by rw [← h]; rfl
@[congr] theorem guardP_congr {t : Bool} {p p' : PV} {A B : Prop} (h : hold p = p') : guardP t p A B = guardP t p' A B := by rw [← h]; rfl
@[congr] theorem CallOk_congr {dr : Bool} {P : Program} {g : FuncId} {as as' : List PV} {st : PS} {id tk : Nat} {K : PV → PS → Prop} (h : hold as = as') : CallOk dr P g as st id tk K = CallOk dr P g as' st id tk K := by rw [← h]; rfl
@[congr] theorem pwp_congr {P : Program} {L : Lim} {c : Code} {s s' : PS} {Q : Exit → PS → Prop} (h : hold s = s') : pwp P L c s Q = pwp P L c s' Q := by rw [← h]; rfl
theorem mem_nil_ {α : Type} {p : α → Prop} : (∀ x ∈ ([] : List α), p x) = True := propext ⟨fun _ => trivial, fun _ x h => by cases h⟩
theorem mem_cons_ {α : Type} {p : α → Prop} {a : α} {l : List α} : (∀ x ∈ a :: l, p x) = (p a ∧ ∀ x ∈ l, p x) := propext List.forall_mem_cons
/-! ### reading as frozen -/
theorem frz_self (p : PV) : Frz p p = True := eq_true (Frz.refl p)
theorem frz1_self (p : PV) : Frz1 p p = True := eq_true (Frz1.refl p)
theorem frzL_self (l : List PV) : FrzL l l = True := eq_true (FrzL.refl l)
theorem frzO_self (o : PObj) : FrzO o o = True := eq_true (FrzO.refl o)
theorem frzO_box {t t' : TypeId} {l m : List PV} : FrzO (.box t l) (.box t' m) = (t = t' ∧ FrzL l m) := propext Iff.rfl
theorem frzO_iter {s s' : ByteArray} {i j : Nat} : FrzO (.iter s i) (.iter s' j) = (some (PObj.iter s i) = some (PObj.iter s' j)) := propext Iff.rfl
theorem frzL_cons {p q : PV} {l m : List PV} : FrzL (p :: l) (q :: m) = (Frz1 p q ∧ FrzL l m) := propext Iff.rfl
theorem frzL_nil : FrzL [] [] = True := propext Iff.rfl
theorem frz_agg {l m : List PV} : Frz (.agg l) (.agg m) = FrzL l m := propext Iff.rfl
theorem frz1_row {k : Nat} {xs ys : List (List PV)} : Frz1 (.row k xs) (.sl ys) = (xs = ys) := propext Iff.rfl
theorem frz1_nil {ys : List (List PV)} : Frz1 (.val (.slice none 0 0)) (.sl ys) = (ys = []) := propext ⟨fun h => h.2, fun h => ⟨rfl, h⟩⟩
theorem frz1_val {a b : Value} : Frz1 (.val a) (.val b) = (some (PV.val a) = some (PV.val b)) := propext Iff.rfl
theorem frz1_sl {a b : List (List PV)} : Frz1 (.sl a) (.sl b) = (some (PV.sl a) = some (PV.sl b)) := propext Iff.rfl
theorem frz1_rr {k j : Nat} {a b : List (List PV)} : Frz1 (.row k a) (.row j b) = (some (PV.row k a) = some (PV.row j b)) := propext Iff.rfl
theorem frz1_ptr {i o i' o' : Nat} : Frz1 (.ptr i o) (.ptr i' o') = (some (PV.ptr i o) = some (PV.ptr i' o')) := propext Iff.rfl
theorem frz1_ms {i o n c i' o' n' c' : Nat} : Frz1 (.ms i o n c) (.ms i' o' n' c') = (some (PV.ms i o n c) = some (PV.ms i' o' n' c')) := propext Iff.rfl
theorem frz_val {a : Value} {q : PV} : Frz (.val a) q = Frz1 (.val a) q := propext Iff.rfl
theorem frz_sl {a : List (List PV)} {q : PV} : Frz (.sl a) q = Frz1 (.sl a) q := propext Iff.rfl
theorem frz_row {k : Nat} {a : List (List PV)} {q : PV} : Frz (.row k a) q = Frz1 (.row k a) q := propext Iff.rfl
theorem frz_ptr {i o : Nat} {q : PV} : Frz (.ptr i o) q = Frz1 (.ptr i o) q := propext Iff.rfl
theorem frz_ms {i o n c : Nat} {q : PV} : Frz (.ms i o n c) q = Frz1 (.ms i o n c) q := propext Iff.rfl
theorem frz_fp {a b : List PV} : Frz (.fp a) (.fp b) = (some (PV.fp a) = some (PV.fp b)) := propext Iff.rfl
theorem frz_tup {a b : List PV} : Frz (.tup a) (.tup b) = (some (PV.tup a) = some (PV.tup b)) := propext Iff.rfl
theorem frz_fn {f g : FuncId} {a b : List PV} : Frz (.fn f a) (.fn g b) = (some (PV.fn f a) = some (PV.fn g b)) := propext Iff.rfl
theorem Frz.of_eq {p q : PV} (h : p = q) : Frz p q := h ▸ Frz.refl p
theorem Frz1.of_eq {p q : PV} (h : p = q) : Frz1 p q := h ▸ Frz1.refl p
theorem FrzL.of_eq {p q : List PV} (h : p = q) : FrzL p q := h ▸ FrzL.refl p
end Go.Pw
