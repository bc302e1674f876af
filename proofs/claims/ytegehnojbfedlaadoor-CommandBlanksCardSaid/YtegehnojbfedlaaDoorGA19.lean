import Derived.Test.YtegehnojbfedlaaDoorGA18
/-
  Chapter 25: the law Blanks, as its row asks it.
-/
open Go Go.Proofs Go.Pw Go.RowKit
namespace Go.Proofs.YtegehnojbfedlaaDoor
set_option maxRecDepth 4000
theorem wf_u8_ {n : Int} (h : (Lit.int .u8 n).wf = true) : 0 ≤ n ∧ n ≤ 255 := by
  simp only [Lit.wf, Bool.and_eq_true, decide_eq_true_eq] at h
  exact h
theorem blanks_row (c : Cm) (gs : List Int) (hc : CmOk c) (h : gs.length ≤ maxLen ∧ ∀ n ∈ gs, (Lit.int .u8 n).wf = true) : Ok Tryd.prog 3 [.agg (cellsC c), .sl (encC gs)] (vB true) :=
  blanks_law c gs hc h.1 (fun n hn => wf_u8_ (h.2 n hn))
end Go.Proofs.YtegehnojbfedlaaDoor
