/-
  The operations that only tell a value: what they tell of pure values, and that the machine tells it.
-/
import Derived.Test.YtegehnojbfedlaaDoorPw1
import Derived.Laws.Strings
namespace Go.Pw
open Go Go.RowKit
set_option linter.unusedVariables false
set_option linter.unusedSimpArgs false

def sizeOf? (P : Program) (t : TypeId) : Option Nat := (P.info? t).map (·.size)
def bytesOf? (P : Program) (t : TypeId) : Option Nat := (P.info? t).map (·.bytes)
def zeroOf? (P : Program) (t : TypeId) : Option Value := (P.info? t).bind (·.zero)
theorem run_sizeOf?  {P : Program} {t : TypeId} {n : Nat} (h : sizeOf? P t = some n) (w : World) : (sizeOf t).run P w = .ok n w := by
  unfold sizeOf? at h
  obtain ⟨i, hi, rfl⟩ := Option.map_eq_some_iff.1 h
  simp [sizeOf, typeInfo, hi]
theorem run_zeroOf? {P : Program} {t : TypeId} {v : Value} (h : zeroOf? P t = some v) (w : World) : (zeroValue t).run P w = .ok v w := by
  unfold zeroOf? at h
  obtain ⟨i, hi, hv⟩ := Option.bind_eq_some_iff.1 h
  simp [zeroValue, typeInfo, hi, hv]

/-- A byte of a string. -/
def bt (s : ByteArray) (i : Int) : Int := ((s.data.toList.getD i.toNat 0).toNat : Int)

def bopK (P : Program) (op : BinOp) (t : TypeId) (x y : Value) (K : PV → Prop) : Prop :=
  match x, y with
  | .int k a, .int k' b =>
    match op with
    | .shl => 0 ≤ b ∧ K (.val (.int k (k.wrap (a * 2 ^ min b.toNat k.bits))))
    | .shr => 0 ≤ b ∧ K (.val (.int k (a.fdiv (2 ^ min b.toNat k.bits))))
    | .add => k = k' ∧ K (.val (.int k (k.wrap (a + b))))
    | .sub => k = k' ∧ K (.val (.int k (k.wrap (a - b))))
    | .mul => k = k' ∧ K (.val (.int k (k.wrap (a * b))))
    | .quo => k = k' ∧ b ≠ 0 ∧ K (.val (.int k (k.wrap (a.tdiv b))))
    | .rem => k = k' ∧ b ≠ 0 ∧ K (.val (.int k (a.tmod b)))
    | .and => k = k' ∧ K (.val (.int k (k.wrap (BitVec.ofInt k.bits a &&& BitVec.ofInt k.bits b).toNat)))
    | .or => k = k' ∧ K (.val (.int k (k.wrap (BitVec.ofInt k.bits a ||| BitVec.ofInt k.bits b).toNat)))
    | .xor => k = k' ∧ K (.val (.int k (k.wrap (BitVec.ofInt k.bits a ^^^ BitVec.ofInt k.bits b).toNat)))
    | .andNot => k = k' ∧ K (.val (.int k (k.wrap (BitVec.ofInt k.bits a &&& ~~~BitVec.ofInt k.bits b).toNat)))
    | .eql => k = k' ∧ K (.val (.bool (decide (a = b))))
    | .neq => k = k' ∧ K (.val (.bool (!decide (a = b))))
    | .lss => k = k' ∧ K (.val (.bool (decide (a < b))))
    | .leq => k = k' ∧ K (.val (.bool (decide (a ≤ b))))
    | .gtr => k = k' ∧ K (.val (.bool (decide (b < a))))
    | .geq => k = k' ∧ K (.val (.bool (decide (b ≤ a))))
  | .string a, .string b =>
    match op with
    | .add => a.size + b.size ≤ 9223372036854775807 ∧ K (.val (.string (a ++ b)))
    | .eql => K (.val (.bool (decide (a.data.toList = b.data.toList))))
    | .neq => K (.val (.bool (!decide (a.data.toList = b.data.toList))))
    | .lss => K (.val (.bool (Op.bytesLess a.data.toList b.data.toList)))
    | .leq => K (.val (.bool (Op.bytesLess a.data.toList b.data.toList || decide (a.data.toList = b.data.toList))))
    | .gtr => K (.val (.bool (!(Op.bytesLess a.data.toList b.data.toList || decide (a.data.toList = b.data.toList)))))
    | .geq => K (.val (.bool (!Op.bytesLess a.data.toList b.data.toList)))
    | _ => False
  | .bool a, .bool b =>
    P.underlying t = some .bool ∧
    match op with
    | .eql => K (.val (.bool (a == b)))
    | .neq => K (.val (.bool (!(a == b))))
    | _ => False
  | .slice none 0 0, .slice none 0 0 =>
    (∃ e, P.underlying t = some (.slice e)) ∧
    match op with
    | .eql => K (.val (.bool true))
    | .neq => K (.val (.bool false))
    | _ => False
  | _, _ => False

theorem bytes_beq (a b : List UInt8) : (a == b) = decide (a = b) := by
  by_cases h : a = b
  · simp [h]
  · simp [h]

theorem int_beq (a b : Int) : (a == b) = decide (a = b) := by
  by_cases h : a = b
  · simp [h]
  · simp [h]
theorem run_equal_bool {P : Program} {t : TypeId} (hu : P.underlying t = some .bool) (d : Nat) (a b : Bool) (w : World) : (Op.equalIn (d + 1) t (.bool a) (.bool b)).run P w = .ok (a == b) w := by
  simp [Op.equalIn, run_underlying hu]
theorem run_equal_nil {P : Program} {t e : TypeId} (hu : P.underlying t = some (.slice e)) (d : Nat) (w : World) : (Op.equalIn (d + 1) t (.slice none 0 0) (.slice none 0 0)).run P w = .ok true w := by
  simp [Op.equalIn, run_underlying hu]
theorem bopK_sound {P : Program} {op : BinOp} {t : TypeId} {x y : Operand} {a b : Value} {K : PV → Prop} (h : bopK P op t a b K) (w : World) :
    ∃ v, (do eqGuard op t x y a b; binOp op t a b : Sem Value).run P w = .ok v w ∧ v.oneCell' = true ∧ K (.val v) := by
  have hg : ∀ (op : BinOp), (eqGuard op t x y a b).run P w = .ok () w → (do eqGuard op t x y a b; binOp op t a b : Sem Value).run P w = (binOp op t a b).run P w := by
    intro op h
    simp [h]
  have hguard : (eqGuard op t x y a b).run P w = .ok () w := by
    unfold bopK at h
    cases a <;> cases b <;> first | (exact h.elim) | (cases op <;> rfl) | (simp only at h; cases op <;> rfl)
  refine (hg op hguard) ▸ ?_
  unfold bopK at h
  split at h
  · rename_i k a k' b
    cases op
    case shl => exact ⟨_, by simp [binOp, Op.shift, Int.not_lt.2 h.1], rfl, h.2⟩
    case shr => exact ⟨_, by simp [binOp, Op.shift, Int.not_lt.2 h.1], rfl, h.2⟩
    case add => obtain ⟨rfl, h⟩ := h; exact ⟨_, by simp [binOp, Op.intArith], rfl, h⟩
    case sub => obtain ⟨rfl, h⟩ := h; exact ⟨_, by simp [binOp, Op.intArith], rfl, h⟩
    case mul => obtain ⟨rfl, h⟩ := h; exact ⟨_, by simp [binOp, Op.intArith], rfl, h⟩
    case quo => obtain ⟨rfl, h0, h⟩ := h; exact ⟨_, by simp [binOp, Op.intDiv, h0], rfl, h⟩
    case rem => obtain ⟨rfl, h0, h⟩ := h; exact ⟨_, by simp [binOp, Op.intDiv, h0], rfl, h⟩
    case and => obtain ⟨rfl, h⟩ := h; exact ⟨_, by simp only [binOp, Op.intBits, ne_eq, not_true_eq_false, if_false, Sem.run_pure], rfl, h⟩
    case or => obtain ⟨rfl, h⟩ := h; exact ⟨_, by simp only [binOp, Op.intBits, ne_eq, not_true_eq_false, if_false, Sem.run_pure], rfl, h⟩
    case xor => obtain ⟨rfl, h⟩ := h; exact ⟨_, by simp only [binOp, Op.intBits, ne_eq, not_true_eq_false, if_false, Sem.run_pure], rfl, h⟩
    case andNot => obtain ⟨rfl, h⟩ := h; exact ⟨_, by simp only [binOp, Op.intBits, ne_eq, not_true_eq_false, if_false, Sem.run_pure], rfl, h⟩
    case eql => obtain ⟨rfl, h⟩ := h; exact ⟨_, by simp only [binOp, Op.intCmp, ne_eq, not_true_eq_false, if_false, Sem.run_pure, int_beq], rfl, h⟩
    case neq => obtain ⟨rfl, h⟩ := h; exact ⟨_, by simp only [binOp, Op.intCmp, ne_eq, not_true_eq_false, if_false, Sem.run_pure, bne, int_beq], rfl, h⟩
    case lss => obtain ⟨rfl, h⟩ := h; exact ⟨_, by simp only [binOp, Op.intCmp, ne_eq, not_true_eq_false, if_false, Sem.run_pure], rfl, h⟩
    case leq => obtain ⟨rfl, h⟩ := h; exact ⟨_, by simp only [binOp, Op.intCmp, ne_eq, not_true_eq_false, if_false, Sem.run_pure], rfl, h⟩
    case gtr => obtain ⟨rfl, h⟩ := h; exact ⟨_, by simp only [binOp, Op.intCmp, ne_eq, not_true_eq_false, if_false, Sem.run_pure], rfl, h⟩
    case geq => obtain ⟨rfl, h⟩ := h; exact ⟨_, by simp only [binOp, Op.intCmp, ne_eq, not_true_eq_false, if_false, Sem.run_pure], rfl, h⟩
  · rename_i a b
    have hm : IntKind.i64.max = 9223372036854775807 := by decide
    cases op <;> simp only at h <;> first
      | (exact h.elim)
      | (refine ⟨_, ?_, ?_, h.2⟩
         · simp only [binOp, Op.stringOp, hm]
           rw [if_neg (by omega)]
           rfl
         · rfl)
      | (exact ⟨_, by simp only [binOp, Op.stringOp, ByteArray.toList_eq, bytes_beq]; rfl, rfl, h⟩)
  · obtain ⟨hu, h⟩ := h
    rename_i a b
    have he := run_equal_bool (P := P) hu 9999 a b w
    cases op <;> simp only at h <;> first
      | (exact h.elim)
      | (refine ⟨_, ?_, ?_, h⟩
         · simp only [binOp]
           simp only [Op.equal, Op.maxDepth, Sem.run_bind, he, Result.andThen_ok, Sem.run_pure]
         · rfl)
  · obtain ⟨⟨e, hu⟩, h⟩ := h
    have he := run_equal_nil (P := P) hu 9999 w
    cases op <;> simp only at h <;> first
      | (exact h.elim)
      | (refine ⟨_, ?_, ?_, h⟩
         · simp only [binOp]
           simp only [Op.equal, Op.maxDepth, Sem.run_bind, he, Result.andThen_ok, Sem.run_pure]
           try (first | rfl | simp only [Bool.not_true])
         · rfl)
  · exact h.elim
end Go.Pw
