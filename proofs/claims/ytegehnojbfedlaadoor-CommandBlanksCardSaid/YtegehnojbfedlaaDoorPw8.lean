/-
  The operations that make or turn something: new variables, stores, rows, append, calls.
-/
import Derived.Test.YtegehnojbfedlaaDoorPw7
namespace Go.Pw
open Go Go.RowKit
set_option linter.unusedVariables false
set_option linter.unusedSimpArgs false

/-- What is frozen. -/
def fz : PV → Option PV
  | .val (.slice none 0 0) => some (.sl [])
  | .val v => some (.val v)
  | .sl xs => some (.sl xs)
  | .row _ xs => some (.sl xs)
  | _ => none
def fzL : List PV → Option (List PV)
  | [] => some []
  | p :: r => match fz p, fzL r with
    | some q, some l => some (q :: l)
    | _, _ => none
def fzLL : List (List PV) → Option (List (List PV))
  | [] => some []
  | p :: r => match fzL p, fzLL r with
    | some q, some l => some (q :: l)
    | _, _ => none
def fzA : PV → Option PV
  | .agg cs => (fzL cs).map .agg
  | .fp cs => some (.fp cs)
  | .fn f [] => some (.fn f [])
  | p => fz p
def fzAs : List PV → Option (List PV)
  | [] => some []
  | p :: r => match fzA p, fzAs r with
    | some q, some l => some (q :: l)
    | _, _ => none

abbrev C0 (S : Cells) : Cx := ⟨fun _ => 0, fun _ => (0, 0), S⟩
/-- A value that reads as p whatever is turned. -/
def Never : Nat → Prop := fun _ => False
abbrev RepA (S : Cells) : Value → PV → Prop := RepV (C0 S) [] Never Never
theorem RepA.up {C : Cx} {T : List (Nat × Tok)} {U V : Nat → Prop} {v : Value} {p : PV} (h : RepA C.S v p) : RepV C T U V v p :=
  RepV.ext (C := C0 C.S) (C' := C) (T' := T) (U' := U) (V' := V) ⟨SLe.refl _, fun _ h => h.elim, fun _ _ h => h.elim, fun _ h => h.elim, fun _ h => h.elim⟩ h
def Stable (S : Cells) (w : World) : Prop := ∀ b o v, S b o = some v → w.cell? ⟨b, o, none⟩ = some v

section
variable {C : Cx} {T : List (Nat × Tok)} {U V : Nat → Prop}
theorem fz_rep {v : Value} {p q : PV} (h : fz p = some q) (r : RepV C T U V v p) : RepF C.S v q := by
  unfold fz at h
  split at h
  · obtain rfl := Option.some.inj h
    obtain ⟨rfl, _⟩ := rep_val r
    exact .sl (sz := 0) (fun _ _ => .nilIface) rfl (Nat.le_refl _) (by simp) (by simp) (by simp)
  · obtain rfl := Option.some.inj h
    obtain ⟨rfl, h1⟩ := rep_val r
    exact .val h1
  · obtain rfl := Option.some.inj h
    exact rep_sl (.inl r)
  · obtain rfl := Option.some.inj h
    exact rep_sl (.inr ⟨_, r⟩)
  · cases h
theorem fzL_get : ∀ {ps qs : List PV}, fzL ps = some qs → ps.length = qs.length ∧ ∀ (i : Nat) (p q : PV), ps[i]? = some p → qs[i]? = some q → fz p = some q
  | [], qs, h => by
    simp only [fzL, Option.some.injEq] at h
    subst h
    exact ⟨rfl, fun i p q hp => by simp at hp⟩
  | p :: r, qs, h => by
    simp only [fzL] at h
    split at h
    · rename_i q l hq hl
      obtain rfl := Option.some.inj h
      obtain ⟨h1, h2⟩ := fzL_get hl
      refine ⟨by simp [h1], fun i p q hp hq => ?_⟩
      cases i with
      | zero => simp at hp hq; subst hp hq; assumption
      | succ i => exact h2 i p q (by simpa using hp) (by simpa using hq)
    · cases h
theorem fzLL_get : ∀ {ps qs : List (List PV)}, fzLL ps = some qs → ps.length = qs.length ∧ ∀ (i : Nat) (p q : List PV), ps[i]? = some p → qs[i]? = some q → fzL p = some q
  | [], qs, h => by
    simp only [fzLL, Option.some.injEq] at h
    subst h
    exact ⟨rfl, fun i p q hp => by simp at hp⟩
  | p :: r, qs, h => by
    simp only [fzLL] at h
    split at h
    · rename_i q l hq hl
      obtain rfl := Option.some.inj h
      obtain ⟨h1, h2⟩ := fzLL_get hl
      refine ⟨by simp [h1], fun i p q hp hq => ?_⟩
      cases i with
      | zero => simp at hp hq; subst hp hq; assumption
      | succ i => exact h2 i p q (by simpa using hp) (by simpa using hq)
    · cases h
theorem fzA_rep {v : Value} {p q : PV} (h : fzA p = some q) (r : RepV C T U V v p) : RepA C.S v q := by
  unfold fzA at h
  split at h
  · obtain ⟨qs, hq, rfl⟩ := Option.map_eq_some_iff.1 h
    obtain ⟨vs, rfl, hr⟩ := rep_agg r
    obtain ⟨h1, h2⟩ := fzL_get hq
    refine rep_aggL ⟨hr.1.trans h1, fun i v q hv hq => ?_⟩
    have hi : i < vs.toList.length := (List.getElem?_eq_some_iff.1 hv).1
    have hp := List.getElem?_eq_getElem (show i < _ from hr.1 ▸ hi)
    have h3 := hr.2 i v _ hv hp
    exact ⟨h3.1, .frz (fz_rep (C := C) (h2 i _ q hp hq) h3.2)⟩
  · obtain rfl := Option.some.inj h
    obtain ⟨b, o, rfl, hS⟩ := rep_fp r
    exact .fp hS
  · obtain rfl := Option.some.inj h
    obtain ⟨vs, rfl, hs, hr⟩ := rep_fn r
    exact .fn hs (fun i v p hv hp => by simp at hp)
  · exact .frz (fz_rep (C := C) h r)
theorem fzAs_get : ∀ {ps qs : List PV}, fzAs ps = some qs → ps.length = qs.length ∧ ∀ (i : Nat) (p q : PV), ps[i]? = some p → qs[i]? = some q → fzA p = some q
  | [], qs, h => by
    simp only [fzAs, Option.some.injEq] at h
    subst h
    exact ⟨rfl, fun i p q hp => by simp at hp⟩
  | p :: r, qs, h => by
    simp only [fzAs] at h
    split at h
    · rename_i q l hq hl
      obtain rfl := Option.some.inj h
      obtain ⟨h1, h2⟩ := fzAs_get hl
      refine ⟨by simp [h1], fun i p q hp hq => ?_⟩
      cases i with
      | zero => simp at hp hq; subst hp hq; assumption
      | succ i => exact h2 i p q (by simpa using hp) (by simpa using hq)
    · cases h
end

/-- Function f is entered by a call. -/
def enters (P : Program) (f : FuncId) : Bool := match P.funcs[f]? with
  | some fn => !(fn.name == "runtime.NumGoroutine") && fn.body.isSome
  | none => false
theorem run_callFunc {P : Program} {f : FuncId} (h : enters P f = true) (args : Array Value) (w : World) : (callFunc f args).run P w = .ok (.enter f args) w := by
  unfold enters at h
  split at h
  · rename_i fn hf
    simp only [Bool.and_eq_true, Bool.not_eq_true'] at h
    have hb : fn.body.isNone = false := by cases hx : fn.body <;> simp_all
    have hn : ¬ (fn.name == "runtime.NumGoroutine") = true := by rw [h.1]; simp
    unfold callFunc
    simp only [Sem.run_bind, run_program, Result.andThen_ok, hf]
    rw [if_neg hn]
    simp only [hb, Bool.false_eq_true, if_false, Sem.run_pure]
  · cases h

/-- ████ What a function does, of values without memory: called with what reads as args it hands back what reads as r, and nothing that was there has turned. -/
def Ok (P : Program) (f : FuncId) (args : List PV) (r : PV) : Prop :=
  enters P f = true ∧ ∀ (S : Cells) (w : World) (vals : Array Value), Known w → Stable S w → vals.size = args.length → (∀ (i : Nat) (v : Value) (p : PV), vals[i]? = some v → args[i]? = some p → RepA S v p) →
    Calls P f vals w fun e w' => ∃ v S', e = .returned v ∧ SLe S S' ∧ Stable S' w' ∧ (∀ b o u, S' b o = some u → S b o = some u ∨ w.heap.size ≤ b) ∧ RepA S' v r ∧ Below w.heap.size w w'

def extPV : Value → PV
  | .tuple vs => .tup (vs.toList.map .val)
  | v => .val v
def extOk : Value → Bool
  | .tuple vs => vs.toList.all (·.oneCell')
  | v => v.oneCell'
/-- A call's own step: of a function with a contract; of one without a body, that only tells a value. -/
inductive CallP (P : Program) (g : FuncId) (as : List PV) (K : PV → Prop) : Prop
  | pure (as' : List PV) (r : PV) (hf : fzAs as = some as') (ok : Ok P g as' r) (k : K r) : CallP P g as K
  | ext (vs : List Value) (r : Value) (ha : as = vs.map .val) (hr : ∀ w, (callFunc g vs.toArray).run P w = .ok (.value r) w) (ho : extOk r = true) (k : K (extPV r)) : CallP P g as K
theorem extPV_rep {C : Cx} {T : List (Nat × Tok)} {U V : Nat → Prop} {r : Value} (h : extOk r = true) : RepV C T U V r (extPV r) := by
  cases r with
  | tuple vs =>
    simp only [extOk, List.all_eq_true] at h
    refine .tup (by simp) (fun i v p hv hp => ?_)
    have hv' : vs.toList[i]? = some v := by simpa using hv
    rw [List.getElem?_map, hv'] at hp
    obtain rfl := Option.some.inj hp
    exact .frz (.val (h v (List.mem_of_getElem? hv')))
  | _ => exact .frz (.val h)

def callK (P : Program) (st : PS) (c : Call) (K : PV → Prop) : Prop :=
  match c.callee with
  | .value f => bindO (st.ev f) fun pf => match pf with
    | .fn g caps => bindO (evAll st c.args.toList) fun as => CallP P g (as ++ caps) K
    | _ => False
  | _ => False

/-- What a step turns: an object that is new or written, a row, the value that it hands on. -/
structure Delta where
  obj : Option (Bool × Nat × PObj)
  tok : Option (Nat × Tok)
  res : Option PV
def Delta.apply (dst : Option Tmp) (st : PS) (d : Delta) : PS :=
  let st1 : PS := { st with
    heap := match d.obj with
      | some (true, i, ob) => (i, ob) :: st.heap
      | some (false, i, ob) => upd st.heap i ob
      | none => st.heap,
    toks := match d.tok with
      | some (k, t) => upd st.toks k t
      | none => st.toks }
  match d.res with
  | some p => st1.put dst p
  | none => st1.kill dst
def Delta.val (p : PV) : Delta := ⟨none, none, some p⟩

def chunks (sz n : Nat) (cs : List PV) : List (List PV) := (List.range n).map fun j => (cs.drop (j * sz)).take sz
/-- What is appended. -/
def srcXs (st : PS) (sz : Nat) : PV → Option (List (List PV))
  | .sl ys => some ys
  | .row _ ys => some ys
  | .val (.slice none 0 0) => some []
  | .ms id lo n _ => match lkp st.heap id with
    | some (.box _ cs) => if lo + n * sz ≤ cs.length then some (chunks sz n (cs.drop lo)) else none
    | _ => none
  | _ => none
def sliceLike : PV → Bool
  | .val (.slice none 0 0) => true
  | .sl _ => true
  | .row _ _ => true
  | .ms _ _ _ _ => true
  | _ => false
/-- Appended: onto nil, onto a row of ours, onto what was made and is full. -/
def appTail (st : PS) (tk0 : Nat) (e : TypeId) (sz by_ : Nat) (d : PV) (ys : List (List PV)) (K : Delta → Prop) : Prop :=
  match ys with
  | [] => sliceLike d = true ∧ K (.val d)
  | y0 :: r => match d with
    | .val (.slice none 0 0) => (y0 :: r).length * by_ ≤ 140737488355328 ∧ (y0 :: r).length ≤ 9223372036854775807 ∧
      K ⟨none, some (tk0, ⟨e, sz, (y0 :: r).length⟩), some (.row tk0 (y0 :: r))⟩
    | .row k xs => bindO (lkp st.toks k) fun tk => tk.n = xs.length ∧ tk.e = e ∧ tk.sz = sz ∧ (xs.length + (y0 :: r).length) * by_ ≤ 140737488355328 ∧ xs.length + (y0 :: r).length ≤ 9223372036854775807 ∧
      K ⟨none, some (k, ⟨e, sz, xs.length + (y0 :: r).length⟩), some (.row k (xs ++ (y0 :: r)))⟩
    | .ms id lo n cap => n = cap ∧ bindO (srcXs st sz (.ms id lo n cap)) fun xs0 => bindO (fzLL xs0) fun xs => (∀ x ∈ xs, x.length = sz) ∧ (xs.length + (y0 :: r).length) * by_ ≤ 140737488355328 ∧ xs.length + (y0 :: r).length ≤ 9223372036854775807 ∧
      K ⟨none, some (tk0, ⟨e, sz, xs.length + (y0 :: r).length⟩), some (.row tk0 (xs ++ (y0 :: r)))⟩
    | _ => False
/-- A text's bytes, one to a cell. -/
def encS (s : ByteArray) : List (List PV) := s.data.toList.map fun b => [.val (.int .u8 b.toNat)]
def appendK (P : Program) (st : PS) (tk0 : Nat) (c : Call) (K : Delta → Prop) : Prop :=
  match c.args.toList, c.argTypes.toList with
  | [x, y], [t, t'] => match P.underlying t with
    | some (.slice e) => bindO (sizeOf? P e) fun sz => bindO (bytesOf? P e) fun by_ => bindO (zeroOf? P e) fun z => z.cells.size = sz ∧ 0 < sz ∧
      bindO (st.ev x) fun d => bindO (st.ev y) fun s => match s with
      | .val (.string s) => P.underlying t' = some .string ∧ sz = 1 ∧ z = .int .u8 0 ∧ appTail st tk0 e 1 by_ d (encS s) K
      | s => t = t' ∧ bindO (srcXs st sz s) fun ys0 => bindO (fzLL ys0) fun ys => (∀ y ∈ ys, y.length = sz) ∧ appTail st tk0 e sz by_ d ys K
    | _ => False
  | _, _ => False
def valsOf : List (Nat × PV) → Nat → Option (List (List PV))
  | [], _ => some []
  | (i, p) :: r, k => if i = k then match fzL p.cells, valsOf r (k + 1) with
      | some c, some l => some (c :: l)
      | _, _ => none
    else none
def notTup : PV → Bool
  | .tup _ => false
  | _ => true

/-- A step; what it makes is numbered id, tk. -/
def stepD (P : Program) (o : Oper) (st : PS) (id tk : Nat) (K : Delta → Prop) : Prop :=
  match o.op with
  | .alloc T => bindO (zeroOf? P T) fun z => constOk z = true ∧ K ⟨some (true, id, .box T (constPV z).cells), none, some (.ptr id 0)⟩
  | .box T x => bindO (st.ev x) fun p => notTup p = true ∧ K ⟨some (true, id, .box T p.cells), none, some (.ptr id 0)⟩
  | .store t x y => bindO (st.ev x) fun p => bindO (st.ev y) fun q => match p with
    | .ptr id1 off => bindO (lkp st.heap id1) fun ob => match ob with
      | .box T cs => sizeOf? P t = some q.cells.length ∧ notTup q = true ∧ off + q.cells.length ≤ cs.length ∧
        K ⟨some (false, id1, .box T (cs.take off ++ q.cells ++ cs.drop (off + q.cells.length))), none, none⟩
      | _ => False
    | _ => False
  | .buildSlice t len parts => match P.underlying t with
    | some (.slice e) => bindO (sizeOf? P e) fun sz => bindO (zeroOf? P e) fun z => bindO (evParts st parts.toList) fun ps => bindO (valsOf ps 0) fun xs =>
      0 < sz ∧ z.cells.size = sz ∧ (∀ x ∈ xs, x.length = sz) ∧ xs.length = len ∧ len * sz ≤ 16777216 ∧ K ⟨none, some (tk, ⟨e, sz, len⟩), some (.row tk xs)⟩
    | _ => False
  | .makeSlice t l c => match P.underlying t with
    | some (.slice e) => bindO (sizeOf? P e) fun sz => bindO (bytesOf? P e) fun by_ => bindO (zeroOf? P e) fun z => bindO (st.ev l) fun p => bindO (st.ev c) fun q => intK p fun n => intK q fun m =>
      constOk z = true ∧ z.cells.size = sz ∧ 0 < sz ∧ n = m ∧ 0 ≤ n ∧ n ≤ 9223372036854775807 ∧ by_ * n ≤ 281474976710656 ∧
        K ⟨some (true, id, .box e ((List.range (n.toNat * sz)).map fun i => (constPV z).cells.getD (i % sz) (.val .nilIface))), none, some (.ms id 0 n.toNat n.toNat)⟩
    | _ => False
  | .range t x => P.underlying t = some .string ∧ bindO (st.ev x) fun p => match p with
    | .val (.string s) => K ⟨some (true, id, .iter s 0), none, some (.ptr id 0)⟩
    | _ => False
  | .next x true => bindO (st.ev x) fun p => match p with
    | .ptr id1 0 => bindO (lkp st.heap id1) fun ob => match ob with
      | .iter s pos => (pos < s.size → K ⟨some (false, id1, .iter s (pos + (Utf8.decode s pos).2)), none, some (.tup [.val (.bool true), .val (.int .i64 pos), .val (.int .i32 (Utf8.decode s pos).1)])⟩) ∧
        (s.size ≤ pos → K (.val (.tup [.val (.bool false)])))
      | _ => False
    | _ => False
  | .call c => match c.callee with
    | .builtin .append => appendK P st tk c K
    | .builtin _ => callV P st c fun p => K (.val p)
    | _ => callK P st c fun p => K (.val p)
  | op => valK P st op fun p => K (.val p)
def stepN0 (P : Program) (o : Oper) (st : PS) (id tk : Nat) (K : PS → Prop) : Prop := stepD P o st id tk fun d => K (d.apply o.dst st)
/-- Which steps make an object, which a row. -/
def makesObj (o : Oper) : Bool :=
  match o.op with
  | .alloc _ => true
  | .box _ _ => true
  | .makeSlice _ _ _ => true
  | .range _ _ => true
  | _ => false
def makesTok (o : Oper) : Bool :=
  match o.op with
  | .buildSlice _ _ _ => true
  | .call c => match c.callee with
    | .builtin .append => true
    | _ => false
  | _ => false
end Go.Pw
