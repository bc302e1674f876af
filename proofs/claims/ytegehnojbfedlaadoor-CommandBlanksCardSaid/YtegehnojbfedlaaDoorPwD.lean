/-
  A step has one outcome.
-/
import Derived.Test.YtegehnojbfedlaaDoorPw11
namespace Go.Pw
open Go Go.RowKit
set_option linter.unusedVariables false
set_option linter.unusedSimpArgs false

/-- One outcome. -/
structure Det {α : Type} (F : (α → Prop) → Prop) : Prop where
  out : ∀ K, F K → ∃ x, K x ∧ ∀ K' : α → Prop, K' x → F K'
theorem Det.ret {α : Type} (x : α) : Det (fun K : α → Prop => K x) := ⟨fun K h => ⟨x, h, fun K' h => h⟩⟩
theorem Det.ff {α : Type} : Det (fun _ : α → Prop => False) := ⟨fun K h => h.elim⟩
theorem Det.bindO {α β : Type} {o : Option β} {G : β → (α → Prop) → Prop} (h : ∀ x, Det (G x)) : Det (fun K => bindO o fun x => G x K) := by
  cases o with
  | none => exact Det.ff
  | some x => exact h x
theorem Det.bindR {α : Type} {o : Option α} : Det (fun K : α → Prop => Go.Pw.bindO o K) := Det.bindO (fun x => Det.ret x)
theorem Det.intK {α : Type} {p : PV} {G : Int → (α → Prop) → Prop} (h : ∀ i, Det (G i)) : Det (fun K => intK p fun i => G i K) := by
  unfold Go.Pw.intK
  cases p with
  | val v => cases v <;> first | exact Det.ff | exact h _
  | _ => exact Det.ff
theorem Det.and {α : Type} {c : Prop} {F : (α → Prop) → Prop} (h : Det F) : Det (fun K => c ∧ F K) :=
  ⟨fun K ⟨hc, hf⟩ => by obtain ⟨x, h1, h2⟩ := h.out K hf; exact ⟨x, h1, fun K' hk => ⟨hc, h2 K' hk⟩⟩⟩
theorem Det.comp {α β : Type} {F : (β → Prop) → Prop} (h : Det F) (g : β → α) : Det (fun K : α → Prop => F fun p => K (g p)) :=
  ⟨fun K hf => by obtain ⟨x, h1, h2⟩ := h.out _ hf; exact ⟨g x, h1, fun K' hk => h2 (fun p => K' (g p)) hk⟩⟩
theorem Det.bool {α : Type} {t : Bool} {F G : (α → Prop) → Prop} (hf : Det F) (hg : Det G) : Det (fun K => (t = true → F K) ∧ (t = false → G K)) := by
  cases t with
  | true => exact ⟨fun K h => by obtain ⟨x, h1, h2⟩ := hf.out K (h.1 rfl); exact ⟨x, h1, fun K' hk => ⟨fun _ => h2 K' hk, fun e => by cases e⟩⟩⟩
  | false => exact ⟨fun K h => by obtain ⟨x, h1, h2⟩ := hg.out K (h.2 rfl); exact ⟨x, h1, fun K' hk => ⟨fun e => (by cases e), fun _ => h2 K' hk⟩⟩⟩
theorem Det.lt {α : Type} {a b : Nat} {F G : (α → Prop) → Prop} (hf : Det F) (hg : Det G) : Det (fun K => (a < b → F K) ∧ (b ≤ a → G K)) := by
  by_cases h : a < b
  · exact ⟨fun K k => by obtain ⟨x, h1, h2⟩ := hf.out K (k.1 h); exact ⟨x, h1, fun K' hk => ⟨fun _ => h2 K' hk, fun e => by omega⟩⟩⟩
  · exact ⟨fun K k => by obtain ⟨x, h1, h2⟩ := hg.out K (k.2 (by omega)); exact ⟨x, h1, fun K' hk => ⟨fun e => absurd e h, fun _ => h2 K' hk⟩⟩⟩
theorem Det.mono {α : Type} {F : (α → Prop) → Prop} (h : Det F) {K K' : α → Prop} (hk : ∀ x, K x → K' x) (f : F K) : F K' := by
  obtain ⟨x, h1, h2⟩ := h.out K f
  exact h2 K' (hk x h1)

section
variable {P : Program} {st : PS}
theorem bounds_det {α : Type} {lo hi : Option Operand} {len : Nat} {G : Nat → Nat → (α → Prop) → Prop} (h : ∀ l r, Det (G l r)) : Det (fun K => boundsK st lo hi len fun l r => G l r K) := by
  unfold boundsK
  cases lo <;> cases hi
  · exact h _ _
  · exact Det.bindO fun _ => Det.intK fun _ => Det.and (Det.and (h _ _))
  · exact Det.bindO fun _ => Det.intK fun _ => Det.and (Det.and (h _ _))
  · exact Det.bindO fun _ => Det.intK fun _ => Det.bindO fun _ => Det.intK fun _ => Det.and (Det.and (Det.and (h _ _)))
theorem bopK_det {op : BinOp} {t : TypeId} {x y : Value} : Det (bopK P op t x y) := by
  unfold bopK
  split
  · cases op <;> first | exact Det.and (Det.and (Det.ret _)) | exact Det.and (Det.ret _)
  · cases op <;> first | exact Det.ff | exact Det.and (Det.ret _) | exact Det.ret _
  · cases op <;> first | exact Det.and Det.ff | exact Det.and (Det.ret _)
  · cases op <;> first | exact Det.and Det.ff | exact Det.and (Det.ret _)
  · exact Det.ff
theorem isNil_det {op : BinOp} {b : Bool} : Det (isNilK op b) := by
  unfold isNilK
  cases op <;> first | exact Det.ff | exact Det.ret _
theorem bin_det {op : BinOp} {t : TypeId} {x y : Operand} : Det (binK P st op t x y) := by
  unfold binK
  refine Det.bindO fun p => Det.bindO fun q => ?_
  split
  · exact Det.and (Det.and isNil_det)
  · exact bopK_det
  · exact Det.and (Det.and isNil_det)
  · exact Det.and (Det.and isNil_det)
  · exact Det.and isNil_det
  · exact Det.ff
theorem slice_det {t : TypeId} {x : Operand} {lo hi : Option Operand} : Det (sliceK P st t x lo hi) := by
  unfold sliceK
  split
  · refine Det.bindO fun p => ?_
    split
    · exact bounds_det fun l r => Det.ret _
    · exact Det.ff
  · refine Det.bindO fun n => Det.bindO fun p => ?_
    split
    · exact bounds_det fun l r => Det.and (Det.ret _)
    · exact bounds_det fun l r => Det.and (Det.ret _)
    · exact bounds_det fun l r => Det.ret _
    · exact bounds_det fun l r => Det.and (Det.ret _)
    · exact Det.ff
  · refine Det.bindO fun n => Det.bindO fun p => ?_
    split
    · exact bounds_det fun l r => Det.and (Det.ret _)
    · exact Det.ff
  · exact Det.ff
theorem indexAddr_det {t : TypeId} {x i : Operand} : Det (indexAddrK P st t x i) := by
  unfold indexAddrK
  split
  · refine Det.bindO fun n => Det.bindO fun p => Det.bindO fun q => Det.intK fun i => ?_
    split
    · exact Det.and (Det.and (Det.and (Det.ret _)))
    · exact Det.and (Det.and (Det.and (Det.ret _)))
    · exact Det.and (Det.and (Det.ret _))
    · exact Det.ff
  · refine Det.bindO fun n => Det.bindO fun p => Det.bindO fun q => Det.intK fun i => ?_
    split
    · exact Det.and (Det.and (Det.ret _))
    · exact Det.ff
  · exact Det.ff
theorem index_det {t : TypeId} {x i : Operand} : Det (indexK P st t x i) := by
  unfold indexK
  split
  · refine Det.bindO fun p => Det.bindO fun q => Det.intK fun i => ?_
    split
    · exact Det.and (Det.and (Det.ret _))
    · exact Det.ff
  · refine Det.bindO fun n => Det.bindO fun p => Det.bindO fun q => Det.intK fun i => ?_
    split
    · exact Det.and (Det.and Det.bindR)
    · exact Det.ff
  · exact Det.ff
theorem fieldAddr_det {s : TypeId} {x : Operand} {f : Nat} : Det (fieldAddrK P st s x f) := by
  unfold fieldAddrK
  split
  · refine Det.bindO fun fd => Det.bindO fun n => Det.and (Det.bindO fun p => ?_)
    split
    · exact Det.ret _
    · exact Det.ret _
    · exact Det.ff
  · exact Det.ff
theorem field_det {s : TypeId} {x : Operand} {f : Nat} : Det (fieldK P st s x f) := by
  unfold fieldK
  split
  · refine Det.bindO fun fd => Det.bindO fun p => ?_
    split
    · exact Det.bindR
    · exact Det.ff
  · exact Det.ff
theorem load_det {t : TypeId} {x : Operand} : Det (loadK P st t x) := by
  unfold loadK
  refine Det.bindO fun p => ?_
  split
  · refine Det.bindO fun o => ?_
    split
    · exact Det.bindR
    · exact Det.ff
  · exact Det.bindR
  · exact Det.ff
theorem build_det {t : TypeId} {parts : List (Nat × Operand)} : Det (buildK P st t parts) := by
  unfold buildK
  split
  · exact Det.bindO fun z => Det.bindO fun pl => Det.bindO fun ps => Det.and (Det.and (Det.bindO fun cs => Det.ret _))
  · exact Det.bindO fun z => Det.bindO fun pl => Det.bindO fun ps => Det.and (Det.and (Det.bindO fun cs => Det.ret _))
  · exact Det.ff
theorem len_det {t : TypeId} {x : Operand} : Det (lenK P st t x) := by
  unfold lenK
  split
  · refine Det.bindO fun p => ?_
    split
    · exact Det.ret _
    · exact Det.ff
  · refine Det.bindO fun p => ?_
    split
    · exact Det.ret _
    · exact Det.ret _
    · exact Det.ret _
    · exact Det.ret _
    · exact Det.ff
  · exact Det.ret _
  · exact Det.ff
theorem un_det {op : UnOp} {p : PV} : Det (unK op p) := by
  unfold unK
  split
  · exact Det.ret _
  · exact Det.ret _
  · exact Det.ff
theorem conv_det {s d : TypeId} {p : PV} : Det (convK P s d p) := by
  unfold convK
  refine Det.and ?_
  split
  · exact Det.ret _
  · exact Det.ret _
  · exact Det.ret _
  · exact Det.and (Det.bindO fun l => Det.ret _)
  · exact Det.and (Det.bindO fun l => Det.ret _)
  · exact Det.and (Det.ret _)
  · exact Det.ff
theorem max2_det {b : Bool} {p q : PV} : Det (max2K b p q) := by
  unfold max2K
  split
  · exact Det.and (Det.ret _)
  · exact Det.ff
theorem callV_det {c : Call} : Det (callV P st c) := by
  unfold callV
  split
  · split
    · exact len_det
    · exact Det.ff
  · split
    · exact Det.bindO fun p => Det.bindO fun q => max2_det
    · exact Det.ff
  · split
    · exact Det.bindO fun p => Det.bindO fun q => max2_det
    · exact Det.ff
  · exact Det.ff
theorem valK_det {op : Op} : Det (valK P st op) := by
  unfold valK
  split
  · exact Det.bindR
  · exact Det.bindR
  · refine Det.bindO fun p => ?_
    split
    · exact Det.bool Det.bindR Det.bindR
    · exact Det.ff
  · exact load_det
  · exact build_det
  · exact bin_det
  · exact Det.bindO fun p => un_det
  · exact Det.bindO fun p => conv_det
  · exact slice_det
  · exact fieldAddr_det
  · exact field_det
  · exact indexAddr_det
  · exact index_det
  · refine Det.bindO fun p => ?_
    split
    · exact Det.bindR
    · exact Det.ff
  · exact Det.bindO fun u => Det.and (Det.bindO fun p => Det.ret _)
  · exact Det.and (Det.bindO fun cs => Det.ret _)
  · refine Det.bindO fun p => ?_
    split
    · exact Det.ret _
    · exact Det.ret _
    · exact Det.ret _
    · exact Det.ff
  · exact callV_det
  · exact Det.ff
theorem appTail_det {tk0 e sz by_ : Nat} {d : PV} {ys : List (List PV)} : Det (appTail st tk0 e sz by_ d ys) := by
  unfold appTail
  split
  · exact Det.and (Det.ret _)
  · split
    · exact Det.and (Det.and (Det.ret _))
    · exact Det.bindO fun tk => Det.and (Det.and (Det.and (Det.and (Det.and (Det.ret _)))))
    · exact Det.and (Det.bindO fun xs0 => Det.bindO fun xs => Det.and (Det.and (Det.and (Det.ret _))))
    · exact Det.ff
theorem append_det {tk : Nat} {c : Call} : Det (appendK P st tk c) := by
  unfold appendK
  split
  · split
    · refine Det.bindO fun sz => Det.bindO fun by_ => Det.bindO fun z => Det.and (Det.and (Det.bindO fun d => Det.bindO fun s => ?_))
      split
      · exact Det.and (Det.and (Det.and appTail_det))
      · exact Det.and (Det.bindO fun ys0 => Det.bindO fun ys => Det.and appTail_det)
    · exact Det.ff
  · exact Det.ff
theorem call_det {c : Call} : Det (callK P st c) := by
  unfold callK
  split
  · refine Det.bindO fun pf => ?_
    split
    · refine Det.bindO fun as => ⟨fun K h => ?_⟩
      cases h with
      | pure as' r hf ok k => exact ⟨r, k, fun K' hk => .pure as' r hf ok hk⟩
      | ext vs r ha hr ho k => exact ⟨_, k, fun K' hk => .ext vs r ha hr ho hk⟩
    · exact Det.ff
  · exact Det.ff
theorem stepD_det {o : Oper} {id tk : Nat} : Det (stepD P o st id tk) := by
  unfold stepD
  split
  · exact Det.bindO fun z => Det.and (Det.ret _)
  · exact Det.bindO fun z => Det.and (Det.ret _)
  · refine Det.bindO fun p => Det.bindO fun q => ?_
    split
    · refine Det.bindO fun ob => ?_
      split
      · exact Det.and (Det.and (Det.and (Det.ret _)))
      · exact Det.ff
    · exact Det.ff
  · split
    · exact Det.bindO fun sz => Det.bindO fun z => Det.bindO fun ps => Det.bindO fun xs => Det.and (Det.and (Det.and (Det.and (Det.and (Det.ret _)))))
    · exact Det.ff
  · split
    · exact Det.bindO fun sz => Det.bindO fun b => Det.bindO fun z => Det.bindO fun p => Det.bindO fun q => Det.intK fun n => Det.intK fun m => Det.and (Det.and (Det.and (Det.and (Det.and (Det.and (Det.and (Det.ret _)))))))
    · exact Det.ff
  · refine Det.and (Det.bindO fun p => ?_)
    split
    · exact Det.ret _
    · exact Det.ff
  · refine Det.bindO fun p => ?_
    split
    · refine Det.bindO fun ob => ?_
      split
      · exact Det.lt (Det.ret _) (Det.ret _)
      · exact Det.ff
    · exact Det.ff
  · split
    · exact append_det
    · exact callV_det.comp _
    · exact call_det.comp _
  · exact valK_det.comp _
theorem stepD_mono {o : Oper} {id tk : Nat} {K K' : Delta → Prop} (hk : ∀ d, K d → K' d) (h : stepD P o st id tk K) : stepD P o st id tk K' := stepD_det.mono hk h
end
end Go.Pw
