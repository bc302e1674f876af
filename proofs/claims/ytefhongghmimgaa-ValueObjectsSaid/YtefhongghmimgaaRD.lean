/-
  How nodes and lists of texts read, as a law's arguments.
-/
import Derived.Test.YtefhongghmimgaaVT
import Derived.Test.YtefhongghmimgaaPwA
open Go Go.Proofs Go.Pw Go.RowKit
namespace Go.Proofs.Ytefhongghmimgaa
set_option maxRecDepth 4000
set_option linter.unusedVariables false
set_option linter.unusedSimpArgs false
theorem wf_u8_ {n : Int} (h : (Lit.int .u8 n).wf = true) : 0 ≤ n ∧ n ≤ 255 := by
  simp only [Lit.wf, Bool.and_eq_true, decide_eq_true_eq] at h
  exact h
section
variable {H : Type} {en : TypeId × Value → H} {w : World} {base : Nat} {spare : Nat → Bool} {held : Bool}
theorem rdTexts : Rd en Try.prog w base spare held 22 (fun l : List ByteArray => [.sl (encT l)]) (fun l => l.length ≤ maxLen ∧ ∀ s ∈ l, s.size ≤ maxLen) :=
  Rd.slice (sz := 1) Try.underlying22 (by kernel_rfl) (by decide) (fun _ => rfl) (Rd.string Try.underlying9)
theorem rdBytes : Rd en Try.prog w base spare held 46 (fun l : List Int => [.sl (encC l)]) (fun l => l.length ≤ maxLen ∧ ∀ n ∈ l, (Lit.int .u8 n).wf = true) :=
  Rd.slice (sz := 1) Try.underlying46 (by kernel_rfl) (by decide) (fun _ => rfl) (Rd.int Try.underlying5)
theorem rdNode : Rd en Try.prog w base spare held 48 cellsN NdOk := by
  refine Rd.map (Rd.struct5 Try.underlying48 rfl (by kernel_rfl) rfl rfl rfl rfl rfl (by kernel_rfl) (by kernel_rfl) (by kernel_rfl) (by kernel_rfl) (by kernel_rfl)
    (Rd.int Try.underlying5) (Rd.int Try.underlying2) (Rd.string Try.underlying9) rdBytes rdTexts)
    (fun a => ⟨a.1, a.2.1, a.2.2.1, a.2.2.2.1, a.2.2.2.2⟩) (fun a => rfl) (fun a h => ⟨wf_u8_ h.1, fun d hd => wf_u8_ (h.2.2.2.1.2 d hd), h.2.2.2.1.1, h.2.2.2.2.1⟩)
theorem rdNodes : Rd en Try.prog w base spare held 23 (fun l : List Nd => [.sl (encN l)]) (fun l => l.length ≤ maxLen ∧ NdsOk l) :=
  Rd.slice (sz := 5) Try.underlying23 (by kernel_rfl) (by decide) (fun _ => rfl) rdNode
end
end Go.Proofs.Ytefhongghmimgaa
