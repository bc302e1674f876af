/-
  What each operation tells (valK), and that the machine tells it (valK_sound).
-/
import Derived.Test.YtegehnojbfedlaaDoorPw3
namespace Go.Pw
open Go Go.RowKit
set_option linter.unusedVariables false
set_option linter.unusedSimpArgs false

def intK (p : PV) (K : Int → Prop) : Prop := match p with | .val (.int _ i) => K i | _ => False
@[simp] theorem intK_int (k : IntKind) (i : Int) (K : Int → Prop) : intK (.val (.int k i)) K = K i := rfl
theorem intK_elim {p : PV} {K : Int → Prop} (h : intK p K) : ∃ k i, p = .val (.int k i) ∧ K i := by
  unfold intK at h
  split at h
  · exact ⟨_, _, rfl, h⟩
  · exact h.elim
/-- The bounds of a cut. -/
def boundsK (st : PS) (lo hi : Option Operand) (len : Nat) (K : Nat → Nat → Prop) : Prop :=
  match lo, hi with
  | none, none => K 0 len
  | some l, none => bindO (st.ev l) fun p => intK p fun i => 0 ≤ i ∧ i ≤ len ∧ K i.toNat len
  | none, some h => bindO (st.ev h) fun q => intK q fun j => 0 ≤ j ∧ j ≤ len ∧ K 0 j.toNat
  | some l, some h => bindO (st.ev l) fun p => intK p fun i => bindO (st.ev h) fun q => intK q fun j => 0 ≤ i ∧ i ≤ j ∧ j ≤ len ∧ K i.toNat j.toNat

def sliceK (P : Program) (st : PS) (t : TypeId) (x : Operand) (lo hi : Option Operand) (K : PV → Prop) : Prop :=
  match P.underlying t with
  | some .string => bindO (st.ev x) fun p => match p with
    | .val (.string s) => boundsK st lo hi s.size fun l h => K (.val (.string (s.extract l h)))
    | _ => False
  | some (.slice e) => bindO (sizeOf? P e) fun n => bindO (st.ev x) fun p => match p with
    | .sl xs => boundsK st lo hi xs.length fun l h => (lo = none ∨ ∀ x ∈ xs, x.length = n) ∧ K (.sl ((xs.take h).drop l))
    | .row _ xs => boundsK st lo hi xs.length fun l h => (lo = none ∨ ∀ x ∈ xs, x.length = n) ∧ K (.sl ((xs.take h).drop l))
    | .val (.slice none 0 0) => boundsK st lo hi 0 fun l h => K (.val (.slice none 0 0))
    | .ms id l0 m cap => boundsK st lo hi m fun l h => lo = none ∧ K (.ms id l0 h cap)
    | _ => False
  | some (.array m e) => bindO (sizeOf? P e) fun n => bindO (st.ev x) fun p => match p with
    | .ptr id off => boundsK st lo hi m fun l h => lo = none ∧ K (.ms id off h m)
    | _ => False
  | _ => False

def indexAddrK (P : Program) (st : PS) (t : TypeId) (x ix : Operand) (K : PV → Prop) : Prop :=
  match P.underlying t with
  | some (.slice e) => bindO (sizeOf? P e) fun n => bindO (st.ev x) fun p => bindO (st.ev ix) fun q => intK q fun i => match p with
    | .sl xs => 0 ≤ i ∧ i < xs.length ∧ (xs.getD i.toNat []).length = n ∧ K (.fp (xs.getD i.toNat []))
    | .row _ xs => 0 ≤ i ∧ i < xs.length ∧ (xs.getD i.toNat []).length = n ∧ K (.fp (xs.getD i.toNat []))
    | .ms id l0 m cap => 0 ≤ i ∧ i < m ∧ K (.ptr id (l0 + i.toNat * n))
    | _ => False
  | some (.array m e) => bindO (sizeOf? P e) fun n => bindO (st.ev x) fun p => bindO (st.ev ix) fun q => intK q fun i => match p with
    | .ptr id off => 0 ≤ i ∧ i < m ∧ K (.ptr id (off + i.toNat * n))
    | _ => False
  | _ => False

def indexK (P : Program) (st : PS) (t : TypeId) (x ix : Operand) (K : PV → Prop) : Prop :=
  match P.underlying t with
  | some .string => bindO (st.ev x) fun p => bindO (st.ev ix) fun q => intK q fun i => match p with
    | .val (.string s) => 0 ≤ i ∧ i < s.size ∧ K (.val (.int .u8 (bt s i)))
    | _ => False
  | some (.array m e) => bindO (sizeOf? P e) fun n => bindO (st.ev x) fun p => bindO (st.ev ix) fun q => intK q fun i => match p with
    | .agg cs => 0 ≤ i ∧ i < m ∧ bindO (readCells P e cs (i.toNat * n)) K
    | _ => False
  | _ => False

def fieldAddrK (P : Program) (st : PS) (s : TypeId) (x : Operand) (f : Nat) (K : PV → Prop) : Prop :=
  match P.underlying s with
  | some (.struct fs) => bindO fs[f]? fun fd => bindO (sizeOf? P fd.type) fun n => n ≠ 0 ∧ bindO (st.ev x) fun p => match p with
    | .ptr id off => K (.ptr id (off + fd.offset))
    | .fp cs => K (.fp (cs.drop fd.offset))
    | _ => False
  | _ => False
def fieldK (P : Program) (st : PS) (s : TypeId) (x : Operand) (f : Nat) (K : PV → Prop) : Prop :=
  match P.underlying s with
  | some (.struct fs) => bindO fs[f]? fun fd => bindO (st.ev x) fun p => match p with
    | .agg cs => bindO (readCells P fd.type cs fd.offset) K
    | _ => False
  | _ => False
def loadK (P : Program) (st : PS) (t : TypeId) (x : Operand) (K : PV → Prop) : Prop :=
  bindO (st.ev x) fun p => match p with
  | .ptr id off => bindO (lkp st.heap id) fun o => match o with
    | .box _ cs => bindO (readCells P t cs off) K
    | _ => False
  | .fp cs => bindO (readCells P t cs 0) K
  | _ => False
def buildK (P : Program) (st : PS) (t : TypeId) (parts : List (Nat × Operand)) (K : PV → Prop) : Prop :=
  match P.underlying t with
  | some (.struct fs) => bindO (zeroOf? P t) fun z => bindO (placesOf P fs.toList) fun pl => bindO (evParts st parts) fun ps =>
    constOk z = true ∧ (ps.all fun e => match e.2 with | .tup _ => false | _ => true) = true ∧ bindO (fillP (fun i => pl[i]?) (constPV z).cells ps) fun cs => K (.agg cs)
  | some (.array m e) => bindO (zeroOf? P t) fun z => bindO (sizeOf? P e) fun n => bindO (evParts st parts) fun ps =>
    constOk z = true ∧ (ps.all fun e => match e.2 with | .tup _ => false | _ => true) = true ∧ bindO (fillP (fun i => some (i * n, n)) (constPV z).cells ps) fun cs => K (.agg cs)
  | _ => False
def lenK (P : Program) (st : PS) (t : TypeId) (x : Operand) (K : PV → Prop) : Prop :=
  match P.underlying t with
  | some .string => bindO (st.ev x) fun p => match p with
    | .val (.string s) => K (.val (.int .i64 s.size))
    | _ => False
  | some (.slice e) => bindO (st.ev x) fun p => match p with
    | .sl xs => K (.val (.int .i64 xs.length))
    | .row _ xs => K (.val (.int .i64 xs.length))
    | .val (.slice none 0 0) => K (.val (.int .i64 0))
    | .ms id l0 m cap => K (.val (.int .i64 m))
    | _ => False
  | some (.array m e) => K (.val (.int .i64 m))
  | _ => False
def isNilK (op : BinOp) (b : Bool) (K : PV → Prop) : Prop :=
  match op with
  | .eql => K (.val (.bool b))
  | .neq => K (.val (.bool (!b)))
  | _ => False
def constO : Operand → Bool
  | .const _ => true
  | _ => false
def binK (P : Program) (st : PS) (op : BinOp) (t : TypeId) (x y : Operand) (K : PV → Prop) : Prop :=
  bindO (st.ev x) fun p => bindO (st.ev y) fun q => match p, q with
  | .val .nilIface, .val .nilIface => (∃ ms, P.underlying t = some (.interface ms)) ∧ constO y = true ∧ isNilK op true K
  | .val a, .val b => bopK P op t a b K
  | .sl xs, .val (.slice none 0 0) => (∃ e, P.underlying t = some (.slice e)) ∧ xs ≠ [] ∧ isNilK op false K
  | .row _ xs, .val (.slice none 0 0) => (∃ e, P.underlying t = some (.slice e)) ∧ xs ≠ [] ∧ isNilK op false K
  | .iface _ _, .val .nilIface => (∃ ms, P.underlying t = some (.interface ms)) ∧ isNilK op false K
  | _, _ => False
def notIface : TypeDesc → Bool
  | .interface _ => false
  | _ => true
def unK (op : UnOp) (p : PV) (K : PV → Prop) : Prop :=
  match op, p with
  | .neg, .val (.int k n) => K (.val (.int k (k.wrap (0 - n))))
  | .not, .val (.bool b) => K (.val (.bool (!b)))
  | _, _ => False
/-- Bytes, one to a cell. -/
def numsOf : List (List PV) → Option (List Int)
  | [] => some []
  | [.val (.int .u8 n)] :: r => (numsOf r).map (n :: ·)
  | _ => none
def isBytes (P : Program) (t : TypeId) : Prop := ∃ e, P.underlying t = some (.slice e) ∧ P.underlying e = some (.int .u8)
def convK (P : Program) (src dst : TypeId) (p : PV) (K : PV → Prop) : Prop :=
  (P.underlying src).isSome = true ∧
  match P.underlying dst, p with
  | some (.int k), .val (.int _ n) => K (.val (.int k (k.wrap n)))
  | some .string, .val (.int _ n) => K (.val (.string (Utf8.encode n)))
  | some .string, .val (.string s) => K (.val (.string s))
  | some .string, .sl xs => isBytes P src ∧ bindO (numsOf xs) fun l => K (.val (.string (strOfNums l)))
  | some .string, .row _ xs => isBytes P src ∧ bindO (numsOf xs) fun l => K (.val (.string (strOfNums l)))
  | some .string, .val (.slice none 0 0) => isBytes P src ∧ K (.val (.string ByteArray.empty))
  | _, _ => False
def max2K (isMax : Bool) (p q : PV) (K : PV → Prop) : Prop :=
  match p, q with
  | .val (.int k x), .val (.int k' y) => k = k' ∧ K (.val (.int k (if isMax then (if y > x then y else x) else (if y < x then y else x))))
  | _, _ => False
def callV (P : Program) (st : PS) (c : Call) (K : PV → Prop) : Prop :=
  match c.callee with
  | .builtin .len => match c.args.toList, c.argTypes.toList with
    | [x], [t] => lenK P st t x K
    | _, _ => False
  | .builtin .max => match c.args.toList with
    | [x, y] => bindO (st.ev x) fun p => bindO (st.ev y) fun q => max2K true p q K
    | _ => False
  | .builtin .min => match c.args.toList with
    | [x, y] => bindO (st.ev x) fun p => bindO (st.ev y) fun q => max2K false p q K
    | _ => False
  | _ => False
def valK (P : Program) (st : PS) (op : Op) (K : PV → Prop) : Prop :=
  match op with
  | .move x => bindO (st.ev x) K
  | .assign x => bindO (st.ev x) K
  | .pick c a b => bindO (st.ev c) fun p => match p with
    | .val (.bool t) => (t = true → bindO (st.ev a) K) ∧ (t = false → bindO (st.ev b) K)
    | _ => False
  | .load t x => loadK P st t x K
  | .build t parts => buildK P st t parts.toList K
  | .binOp op t x y _ => binK P st op t x y K
  | .unOp op _ x => bindO (st.ev x) fun p => unK op p K
  | .convert src dst x => bindO (st.ev x) fun p => convK P src dst p K
  | .slice t x lo hi none => sliceK P st t x lo hi K
  | .fieldAddr s x f => fieldAddrK P st s x f K
  | .field s x f => fieldK P st s x f K
  | .indexAddr t x i => indexAddrK P st t x i K
  | .index t x i => indexK P st t x i K
  | .extract x i => bindO (st.ev x) fun p => match p with
    | .tup cs => bindO cs[i]? K
    | _ => False
  | .makeInterface t x => bindO (P.underlying t) fun u => notIface u = true ∧ bindO (st.ev x) fun p => K (.iface t p)
  | .makeFunc (.func f) first caps => first.toList = [] ∧ bindO (evAll st caps.toList) fun cs => K (.fn f cs)
  | .nilCheck x => bindO (st.ev x) fun p => match p with
    | .ptr _ _ => K p
    | .fp _ => K p
    | .fn _ _ => K p
    | _ => False
  | .call c => callV P st c K
  | _ => False

section
variable {P : Program} {own : Nat → Prop} {S0 : Base} {w0 w : World} {C : Cx} {U V : Nat → Prop} {st : PS} {a : Act}

theorem rep_val {T : List (Nat × Tok)} {U V : Nat → Prop} {v u : Value} (h : RepV C T U V v (.val u)) : v = u ∧ u.oneCell' = true := by
  cases h with
  | frz h => cases h with | val h => exact ⟨rfl, h⟩
theorem rep_sl {T : List (Nat × Tok)} {U V : Nat → Prop} {v : Value} {xs : List (List PV)} (h : RepV C T U V v (.sl xs) ∨ ∃ k, RepV C T U V v (.row k xs)) : RepF C.S v (.sl xs) := by
  rcases h with h | ⟨k, h⟩
  · cases h with | frz h => exact h
  · cases h with
    | frz h => cases h
    | row h _ _ => exact h
theorem rep_ptr {T : List (Nat × Tok)} {U V : Nat → Prop} {v : Value} {id off : Nat} (h : RepV C T U V v (.ptr id off)) : v = .pointer (some ⟨C.ρ id, off, none⟩) ∧ U id := by
  cases h with
  | frz h => cases h
  | ptr h => exact ⟨rfl, h⟩
theorem rep_ms {T : List (Nat × Tok)} {U V : Nat → Prop} {v : Value} {id lo n cap : Nat} (h : RepV C T U V v (.ms id lo n cap)) : v = .slice (some ⟨C.ρ id, lo, none⟩) n cap ∧ U id ∧ n ≤ cap := by
  cases h with
  | frz h => cases h
  | ms h hc => exact ⟨rfl, h, hc⟩
theorem rep_fp {T : List (Nat × Tok)} {U V : Nat → Prop} {v : Value} {cs : List PV} (h : RepV C T U V v (.fp cs)) :
    ∃ b o, v = .pointer (some ⟨b, o, none⟩) ∧ ∀ (i : Nat) (p : PV), cs[i]? = some p → ∃ u, C.S b (o + i) = some u ∧ RepF C.S u p := by
  cases h with
  | frz h => cases h
  | fp h => exact ⟨_, _, rfl, h⟩
theorem rep_agg {T : List (Nat × Tok)} {U V : Nat → Prop} {v : Value} {cs : List PV} (h : RepV C T U V v (.agg cs)) : ∃ vs, v = .agg vs ∧ RepL C T U V vs.toList cs := by
  cases h with
  | frz h => cases h
  | agg hs h h1 => exact ⟨_, rfl, by simpa using hs, fun i v p hv hp => ⟨h1 i v (by simpa using hv), h i v p (by simpa using hv) hp⟩⟩
theorem rep_tup {T : List (Nat × Tok)} {U V : Nat → Prop} {v : Value} {cs : List PV} (h : RepV C T U V v (.tup cs)) : ∃ vs, v = .tuple vs ∧ vs.size = cs.length ∧ ∀ (i : Nat) (v : Value) (p : PV), vs[i]? = some v → cs[i]? = some p → RepV C T U V v p := by
  cases h with
  | frz h => cases h
  | tup hs h => exact ⟨_, rfl, hs, h⟩
theorem rep_fn {T : List (Nat × Tok)} {U V : Nat → Prop} {v : Value} {f : FuncId} {cs : List PV} (h : RepV C T U V v (.fn f cs)) : ∃ vs : Array Value, v = .func (.func f) #[] vs ∧ vs.size = cs.length ∧ ∀ (i : Nat) (v : Value) (p : PV), vs[i]? = some v → cs[i]? = some p → RepV C T U V v p := by
  cases h with
  | frz h => cases h
  | fn hs h => exact ⟨_, rfl, hs, h⟩
theorem rep_iface {T : List (Nat × Tok)} {U V : Nat → Prop} {v : Value} {t : TypeId} {p : PV} (h : RepV C T U V v (.iface t p)) : ∃ u, v = .iface t u ∧ RepV C T U V u p := by
  cases h with
  | frz h => cases h
  | iface h => exact ⟨_, rfl, h⟩
theorem rep_aggL {T : List (Nat × Tok)} {U V : Nat → Prop} {vs : Array Value} {cs : List PV} (h : RepL C T U V vs.toList cs) : RepV C T U V (.agg vs) (.agg cs) :=
  .agg (by simpa using h.1) (fun i v p hv hp => (h.2 i v p (by simpa using hv) hp).2) (fun i v hv => by
    have hi : i < cs.length := by
      have := (Array.getElem?_eq_some_iff.1 hv).1
      have h1 := h.1
      simp at h1
      omega
    exact (h.2 i v _ (by simpa using hv) (List.getElem?_eq_getElem hi)).1)

theorem evParts_rep (E : Env C U V st a) : ∀ (parts : List (Nat × Operand)) (ps : List (Nat × PV)), evParts st parts = some ps → (ps.all fun e => match e.2 with | .tup _ => false | _ => true) = true →
    (parts.map fun x => (x.1, a.eval x.2)).length = ps.length ∧ ∀ (i : Nat) (x : Nat × Value) (y : Nat × PV), (parts.map fun x => (x.1, a.eval x.2))[i]? = some x → ps[i]? = some y → x.1 = y.1 ∧ RepL C st.toks U V x.2.cells.toList y.2.cells
  | [], ps, h, _ => by
    simp only [evParts, Option.some.injEq] at h
    subst h
    exact ⟨rfl, fun i x y hx => by simp at hx⟩
  | (i, x) :: r, ps, h, hnt => by
    simp only [evParts] at h
    split at h
    · rename_i p l hp hl
      obtain rfl := Option.some.inj h
      simp only [List.all_cons, Bool.and_eq_true] at hnt
      obtain ⟨ih1, ih2⟩ := evParts_rep E r l hl hnt.2
      refine ⟨by simpa using ih1, fun j u y hu hy => ?_⟩
      cases j with
      | zero =>
        simp at hu hy
        subst hu hy
        refine ⟨rfl, (ev_rep E hp).cells (fun cs e => ?_)⟩
        have := hnt.1
        have e' : p = .tup cs := e
        rw [e'] at this
        cases this
      | succ j => exact ih2 j u y (by simpa using hu) (by simpa using hy)
    · cases h
theorem evAll_rep (E : Env C U V st a) : ∀ (xs : List Operand) (ps : List PV), evAll st xs = some ps →
    (xs.map a.eval).length = ps.length ∧ ∀ (i : Nat) (v : Value) (p : PV), (xs.map a.eval)[i]? = some v → ps[i]? = some p → RepV C st.toks U V v p
  | [], ps, h => by
    simp only [evAll, Option.some.injEq] at h
    subst h
    exact ⟨rfl, fun i x y hx => by simp at hx⟩
  | x :: r, ps, h => by
    simp only [evAll] at h
    split at h
    · rename_i p l hp hl
      obtain rfl := Option.some.inj h
      obtain ⟨ih1, ih2⟩ := evAll_rep E r l hl
      refine ⟨by simpa using ih1, fun j v p hv hp => ?_⟩
      cases j with
      | zero => simp at hv hp; subst hv hp; exact ev_rep E (by assumption)
      | succ j => exact ih2 j v p (by simpa using hv) (by simpa using hp)
    · cases h
end
end Go.Pw
