/-
  The law DrawAll, for all.
-/
import Derived.Test.YtmenmfibpbpblaaF6
open Go Go.Proofs Go.Pw Go.RowKit
namespace Go.Proofs.Ytmenmfibpbpblaa
set_option maxRecDepth 4000
set_option linter.unusedVariables false
set_option linter.unusedSimpArgs false
theorem all_ok (w : List Int) (hw : w.length ≤ maxLen ∧ ∀ n ∈ w, (Lit.int .u8 n).wf = true) : Ok Try.prog 6 [.sl (encC w)] (vB true) := by
  obtain ⟨hb, hw⟩ := hw
  unfold maxLen at hb
  by_cases hs : 0 < w.length ∧ w.length ≤ 10
  · refine all_in w hs.1 hs.2 (fun n hn => ?_)
    have h := hw n hn
    simp only [Lit.wf, Bool.and_eq_true, decide_eq_true_eq] at h
    exact h
  refine Ok.of_pwp (by kernel_rfl) Try.func6 rfl (by kernel_rfl) (by kernel_rfl) ?_
  by_cases h0 : w.length = 0
  · have h0' : (w.length : Int) = 0 := by omega
    simp (implicitDefEqProofs := false) (disch := omega) only [go_sem, reduceCtorEq, Nat.reduceEqDiff, Nat.reduceBEq, ↓reduceIte, Nat.reduceGT, Nat.reduceAdd, Int.reduceEq, Int.reduceLT, Int.reduceLE, Int.reduceNeg, Int.reduceAdd, Int.reduceSub, Int.reduceMul, Int.reduceDiv, Int.reduceMod, Nat.reduceLT, Nat.reduceLeDiff, Nat.reduceMul, Nat.reduceSub, Int.reduceToNat, go_sem, Nat.le_refl, encC_len, Try.results6]
    with_reducible refine CallOk.of awake_ok rfl ?_
    simp (implicitDefEqProofs := false) (disch := omega) only [go_sem, reduceCtorEq, Nat.reduceEqDiff, Nat.reduceBEq, ↓reduceIte, Nat.reduceGT, Nat.reduceAdd, Int.reduceEq, Int.reduceLT, Int.reduceLE, Int.reduceNeg, Int.reduceAdd, Int.reduceSub, Int.reduceMul, Int.reduceDiv, Int.reduceMod, Nat.reduceLT, Nat.reduceLeDiff, Nat.reduceMul, Nat.reduceSub, Int.reduceToNat, go_sem, Nat.le_refl, encC_len, Try.results6]
    with_reducible refine CallOk.of awake_ok rfl ?_
    simp (implicitDefEqProofs := false) (disch := omega) only [go_sem, reduceCtorEq, Nat.reduceEqDiff, Nat.reduceBEq, ↓reduceIte, Nat.reduceGT, Nat.reduceAdd, Int.reduceEq, Int.reduceLT, Int.reduceLE, Int.reduceNeg, Int.reduceAdd, Int.reduceSub, Int.reduceMul, Int.reduceDiv, Int.reduceMod, Nat.reduceLT, Nat.reduceLeDiff, Nat.reduceMul, Nat.reduceSub, Int.reduceToNat, go_sem, Nat.le_refl, encC_len, Try.results6]
  · have h0' : ¬ (w.length : Int) = 0 := by omega
    simp (implicitDefEqProofs := false) (disch := omega) only [go_sem, reduceCtorEq, Nat.reduceEqDiff, Nat.reduceBEq, ↓reduceIte, Nat.reduceGT, Nat.reduceAdd, Int.reduceEq, Int.reduceLT, Int.reduceLE, Int.reduceNeg, Int.reduceAdd, Int.reduceSub, Int.reduceMul, Int.reduceDiv, Int.reduceMod, Nat.reduceLT, Nat.reduceLeDiff, Nat.reduceMul, Nat.reduceSub, Int.reduceToNat, go_sem, Nat.le_refl, encC_len, Try.results6]
    with_reducible refine CallOk.of awake_ok rfl ?_
    simp (implicitDefEqProofs := false) (disch := omega) only [go_sem, reduceCtorEq, Nat.reduceEqDiff, Nat.reduceBEq, ↓reduceIte, Nat.reduceGT, Nat.reduceAdd, Int.reduceEq, Int.reduceLT, Int.reduceLE, Int.reduceNeg, Int.reduceAdd, Int.reduceSub, Int.reduceMul, Int.reduceDiv, Int.reduceMod, Nat.reduceLT, Nat.reduceLeDiff, Nat.reduceMul, Nat.reduceSub, Int.reduceToNat, go_sem, Nat.le_refl, encC_len, Try.results6]
    with_reducible refine CallOk.of awake_ok rfl ?_
    simp (implicitDefEqProofs := false) (disch := omega) only [go_sem, reduceCtorEq, Nat.reduceEqDiff, Nat.reduceBEq, ↓reduceIte, Nat.reduceGT, Nat.reduceAdd, Int.reduceEq, Int.reduceLT, Int.reduceLE, Int.reduceNeg, Int.reduceAdd, Int.reduceSub, Int.reduceMul, Int.reduceDiv, Int.reduceMod, Nat.reduceLT, Nat.reduceLeDiff, Nat.reduceMul, Nat.reduceSub, Int.reduceToNat, go_sem, Nat.le_refl, encC_len, Try.results6]
end Go.Proofs.Ytmenmfibpbpblaa
