/-
  How a play, weights and bytes read, as a law's arguments.
-/
import Derived.Test.YtmenmfibpbpblaaPL
import Derived.Test.YtmenmfibpbpblaaTy
import Derived.Test.YtmenmfibpbpblaaPwA
open Go Go.Proofs Go.Pw Go.RowKit
namespace Go.Proofs.Ytmenmfibpbpblaa
set_option maxRecDepth 4000
set_option linter.unusedVariables false
set_option linter.unusedSimpArgs false
theorem wf_i64_ {n : Int} (h : (Lit.int .i64 n).wf = true) : -9223372036854775808 ≤ n ∧ n ≤ 9223372036854775807 := by
  simp only [Lit.wf, Bool.and_eq_true, decide_eq_true_eq] at h
  exact h
section
variable {H : Type} {en : TypeId × Value → H} {w : World} {base : Nat} {spare : Nat → Bool} {held : Bool}
theorem rdInts : Rd en Try.prog w base spare held 22 (fun l : List Int => [.sl (encI l)]) (fun l => l.length ≤ maxLen ∧ ∀ n ∈ l, (Lit.int .i64 n).wf = true) :=
  Rd.slice (sz := 1) Try.underlying22 (by kernel_rfl) (by decide) (fun _ => rfl) (Rd.int Try.underlying3)
theorem rdBytes : Rd en Try.prog w base spare held 43 (fun l : List Int => [.sl (encC l)]) (fun l => l.length ≤ maxLen ∧ ∀ n ∈ l, (Lit.int .u8 n).wf = true) :=
  Rd.slice (sz := 1) Try.underlying43 (by kernel_rfl) (by decide) (fun _ => rfl) (Rd.int Try.underlying5)
theorem rdPlay : Rd en Try.prog w base spare held 30 cellsP PlOk := by
  refine Rd.map (Rd.struct3 Try.underlying30 rfl (by kernel_rfl) rfl rfl rfl (by kernel_rfl) (by kernel_rfl) (by kernel_rfl)
    rdInts (Rd.int Try.underlying2) (Rd.bool Try.underlying4))
    (fun a => ⟨a.1, a.2.1, a.2.2⟩) (fun a => rfl) (fun a h => ⟨h.1.1, wf_i64_ h.2.1⟩)
theorem rdWeights : Rd en Try.prog w base spare held 49 (fun l : List (List Int) => [.sl (encW l)]) (fun l => l.length ≤ maxLen ∧ WsOk l) := by
  refine Rd.map (Rd.slice (sz := 1) Try.underlying49 (by kernel_rfl) (by decide) (fun _ => rfl) rdInts) id (fun a => rfl) (fun a h => ⟨h.1, fun w hw => (h.2 w hw).1⟩)
end
end Go.Proofs.Ytmenmfibpbpblaa
