/-
  The law of weighing, for all.
-/
import Derived.Test.YtmenmfibpbpblaaF4
open Go Go.Proofs Go.Pw Go.RowKit
namespace Go.Proofs.Ytmenmfibpbpblaa
set_option maxRecDepth 4000
set_option linter.unusedVariables false
set_option linter.unusedSimpArgs false
theorem weighs_ok (p : Pl) (ws : List (List Int)) (hp : PlOk p) (hw : ws.length ≤ maxLen ∧ WsOk ws) : Ok Try.prog 7 [.agg (cellsP p), .sl (encW ws)] (vB true) := by
  obtain ⟨l, n, m⟩ := p
  obtain ⟨h1, h2⟩ := hp
  obtain ⟨hb, _⟩ := hw
  simp only at h1 h2
  unfold maxLen at h1 hb
  by_cases hs : l.length ≤ 60 ∧ ws.length ≤ 30
  · cases m with
    | false => exact weighs_S l n ws hs.1 hs.2
    | true => exact weighs_M l n ws h2 hs.1 hs.2
  refine Ok.of_pwp (by kernel_rfl) Try.func7 rfl (by kernel_rfl) (by kernel_rfl) ?_
  simp (implicitDefEqProofs := false) (disch := omega) only [go_sem, reduceCtorEq, Nat.reduceEqDiff, Nat.reduceBEq, ↓reduceIte, Nat.reduceGT, Nat.reduceAdd, Int.reduceEq, Int.reduceLT, Int.reduceLE, Int.reduceNeg, Int.reduceAdd, Int.reduceSub, Int.reduceMul, Int.reduceDiv, Int.reduceMod, Nat.reduceLT, Nat.reduceLeDiff, Nat.reduceMul, Nat.reduceSub, Int.reduceToNat, go_sem, Nat.le_refl, encI_len, ↓ix_enc, encW_len, ↓ix_W, Try.results7]
  with_reducible refine CallOk.of awake_ok rfl ?_
  by_cases hl : l.length ≤ 60
  · simp (implicitDefEqProofs := false) (disch := omega) only [go_sem, reduceCtorEq, Nat.reduceEqDiff, Nat.reduceBEq, ↓reduceIte, Nat.reduceGT, Nat.reduceAdd, Int.reduceEq, Int.reduceLT, Int.reduceLE, Int.reduceNeg, Int.reduceAdd, Int.reduceSub, Int.reduceMul, Int.reduceDiv, Int.reduceMod, Nat.reduceLT, Nat.reduceLeDiff, Nat.reduceMul, Nat.reduceSub, Int.reduceToNat, go_sem, Nat.le_refl, encI_len, ↓ix_enc, encW_len, ↓ix_W, Try.results7]
    with_reducible refine CallOk.of awake_ok rfl ?_
    simp (implicitDefEqProofs := false) (disch := omega) only [go_sem, reduceCtorEq, Nat.reduceEqDiff, Nat.reduceBEq, ↓reduceIte, Nat.reduceGT, Nat.reduceAdd, Int.reduceEq, Int.reduceLT, Int.reduceLE, Int.reduceNeg, Int.reduceAdd, Int.reduceSub, Int.reduceMul, Int.reduceDiv, Int.reduceMod, Nat.reduceLT, Nat.reduceLeDiff, Nat.reduceMul, Nat.reduceSub, Int.reduceToNat, go_sem, Nat.le_refl, encI_len, ↓ix_enc, encW_len, ↓ix_W, Try.results7]
  · simp (implicitDefEqProofs := false) (disch := omega) only [go_sem, reduceCtorEq, Nat.reduceEqDiff, Nat.reduceBEq, ↓reduceIte, Nat.reduceGT, Nat.reduceAdd, Int.reduceEq, Int.reduceLT, Int.reduceLE, Int.reduceNeg, Int.reduceAdd, Int.reduceSub, Int.reduceMul, Int.reduceDiv, Int.reduceMod, Nat.reduceLT, Nat.reduceLeDiff, Nat.reduceMul, Nat.reduceSub, Int.reduceToNat, go_sem, Nat.le_refl, encI_len, ↓ix_enc, encW_len, ↓ix_W, Try.results7]
    with_reducible refine CallOk.of awake_ok rfl ?_
    simp (implicitDefEqProofs := false) (disch := omega) only [go_sem, reduceCtorEq, Nat.reduceEqDiff, Nat.reduceBEq, ↓reduceIte, Nat.reduceGT, Nat.reduceAdd, Int.reduceEq, Int.reduceLT, Int.reduceLE, Int.reduceNeg, Int.reduceAdd, Int.reduceSub, Int.reduceMul, Int.reduceDiv, Int.reduceMod, Nat.reduceLT, Nat.reduceLeDiff, Nat.reduceMul, Nat.reduceSub, Int.reduceToNat, go_sem, Nat.le_refl, encI_len, ↓ix_enc, encW_len, ↓ix_W, Try.results7]
end Go.Proofs.Ytmenmfibpbpblaa
