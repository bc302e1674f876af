/-
  Chapter 25: how a command reads, as a law's argument; the law Lines as its row asks it.
-/
import Derived.Test.YtegehnojbfedlaaDoorCD
import Derived.Test.YtegehnojbfedlaaDoorPwA
open Go Go.Proofs Go.Pw Go.RowKit
namespace Go.Proofs.YtegehnojbfedlaaDoor
set_option maxRecDepth 4000
set_option linter.unusedVariables false
set_option linter.unusedSimpArgs false
theorem wf_i64_ {n : Int} (h : (Lit.int .i64 n).wf = true) : fits n := by
  simp only [Lit.wf, Bool.and_eq_true, decide_eq_true_eq] at h
  exact h
def cellsC (c : Cm) : List PV := [vS (bA c.word), .sl (encB c.names), .sl (encI c.nums), vS (bA c.rest)]
def CmOk (c : Cm) : Prop := c.names.length ≤ 9223372036854775807 ∧ c.nums.length ≤ 9223372036854775807 ∧ ∀ n ∈ c.nums, fits n
section
variable {H : Type} {en : TypeId × Value → H} {w : World} {base : Nat} {spare : Nat → Bool} {held : Bool}
theorem rdTexts : Rd en Tryd.prog w base spare held 22 (fun l : List ByteArray => [.sl (l.map fun s => [vS s])]) (fun l => l.length ≤ maxLen ∧ ∀ s ∈ l, s.size ≤ maxLen) :=
  Rd.slice (sz := 1) Tryd.underlying22 (by kernel_rfl) (by decide) (fun _ => rfl) (Rd.string Tryd.underlying9)
theorem rdNums : Rd en Tryd.prog w base spare held 23 (fun l : List Int => [.sl (encI l)]) (fun l => l.length ≤ maxLen ∧ ∀ n ∈ l, (Lit.int .i64 n).wf = true) :=
  Rd.slice (sz := 1) Tryd.underlying23 (by kernel_rfl) (by decide) (fun _ => rfl) (Rd.int Tryd.underlying2)
theorem rdBytes : Rd en Tryd.prog w base spare held 26 (fun l : List Int => [.sl (encC l)]) (fun l => l.length ≤ maxLen ∧ ∀ n ∈ l, (Lit.int .u8 n).wf = true) :=
  Rd.slice (sz := 1) Tryd.underlying26 (by kernel_rfl) (by decide) (fun _ => rfl) (Rd.int Tryd.underlying5)
theorem rdC : Rd en Tryd.prog w base spare held 25 cellsC CmOk := by
  refine Rd.map (Rd.struct4 Tryd.underlying25 rfl (by kernel_rfl) rfl rfl rfl rfl (by kernel_rfl) (by kernel_rfl) (by kernel_rfl) (by kernel_rfl)
    (Rd.string Tryd.underlying9) rdTexts rdNums (Rd.string Tryd.underlying9))
    (fun a => ⟨a.1.data.toList, a.2.1.map (·.data.toList), a.2.2.1, a.2.2.2.data.toList⟩) (fun a => ?_) (fun a h => ⟨?_, h.2.2.1.1, fun n hn => wf_i64_ (h.2.2.1.2 n hn)⟩)
  · unfold cellsC encB
    simp only [List.map_map]
    rfl
  · rw [List.length_map]; exact h.2.1.1
end
theorem lines_law (c : Cm) (h : CmOk c) : Ok Tryd.prog 8 [.agg (cellsC c)] (vB true) := lines_ok c h.1 h.2.1 h.2.2
end Go.Proofs.YtegehnojbfedlaaDoor
