/-
  Chapter 12: the document's source.
-/
import Derived.Test.YtmenmfibpbpblaaE2
open Go Go.Proofs Go.Pw Go.RowKit
namespace Go.Proofs.Ytmenmfibpbpblaa
set_option maxRecDepth 4000
set_option linter.unusedVariables false
set_option linter.unusedSimpArgs false
set_option maxHeartbeats 2000000 in
theorem rnextS_ok (l : List Int) (z u b : Int) (hl : l.length ≤ 1000000) (hu : 0 ≤ u ∧ u ≤ 1000000) : Ok Try.prog 14 [.agg [.sl (encI l), vB false, vU z, vI u], vI b] (.tup [.agg [.sl (encI l), vB false, vU z, vI (usedN u b)], vI (scN l u b)]) := by
  refine Ok.of_pwp (by kernel_rfl) Try.func14 rfl (by kernel_rfl) (by kernel_rfl) ?_
  by_cases hb1 : b < 1
  · have hb := okB_F (b := b) (by omega)
    simp (implicitDefEqProofs := false) (disch := omega) only [go_sem, reduceCtorEq, Nat.reduceEqDiff, Nat.reduceBEq, ↓reduceIte, Nat.reduceGT, Nat.reduceAdd, Int.reduceEq, Int.reduceLT, Int.reduceLE, Int.reduceNeg, Int.reduceAdd, Int.reduceSub, Int.reduceMul, Int.reduceDiv, Int.reduceMod, Nat.reduceLT, Nat.reduceLeDiff, Nat.reduceMul, Nat.reduceSub, Int.reduceToNat, go_sem, Nat.le_refl, encI_len, ↓ix_enc, Try.results14, usedN, scN, hb]
  by_cases hb2 : 4294967296 < b
  · have hb := okB_F (b := b) (by omega)
    simp (implicitDefEqProofs := false) (disch := omega) only [go_sem, reduceCtorEq, Nat.reduceEqDiff, Nat.reduceBEq, ↓reduceIte, Nat.reduceGT, Nat.reduceAdd, Int.reduceEq, Int.reduceLT, Int.reduceLE, Int.reduceNeg, Int.reduceAdd, Int.reduceSub, Int.reduceMul, Int.reduceDiv, Int.reduceMod, Nat.reduceLT, Nat.reduceLeDiff, Nat.reduceMul, Nat.reduceSub, Int.reduceToNat, go_sem, Nat.le_refl, encI_len, ↓ix_enc, Try.results14, usedN, scN, hb]
  have hb := okB_T (b := b) (by omega) (by omega)
  by_cases h1 : (l.length : Int) < u + 1
  · simp (implicitDefEqProofs := false) (disch := omega) only [go_sem, reduceCtorEq, Nat.reduceEqDiff, Nat.reduceBEq, ↓reduceIte, Nat.reduceGT, Nat.reduceAdd, Int.reduceEq, Int.reduceLT, Int.reduceLE, Int.reduceNeg, Int.reduceAdd, Int.reduceSub, Int.reduceMul, Int.reduceDiv, Int.reduceMod, Nat.reduceLT, Nat.reduceLeDiff, Nat.reduceMul, Nat.reduceSub, Int.reduceToNat, go_sem, Nat.le_refl, encI_len, ↓ix_enc, Try.results14, usedN, scN, hb]
    rw [if_pos h1]
  have e1 : u + 1 - 1 = u := by omega
  have b1 := Int.lt_tmod_of_pos (l.getD u.toNat 0) (show 0 < b by omega)
  have b2 := Int.tmod_lt_of_pos (l.getD u.toNat 0) (show 0 < b by omega)
  by_cases h2 : (l.getD u.toNat 0).tmod b < 0
  · simp (implicitDefEqProofs := false) (disch := omega) only [go_sem, reduceCtorEq, Nat.reduceEqDiff, Nat.reduceBEq, ↓reduceIte, Nat.reduceGT, Nat.reduceAdd, Int.reduceEq, Int.reduceLT, Int.reduceLE, Int.reduceNeg, Int.reduceAdd, Int.reduceSub, Int.reduceMul, Int.reduceDiv, Int.reduceMod, Nat.reduceLT, Nat.reduceLeDiff, Nat.reduceMul, Nat.reduceSub, Int.reduceToNat, go_sem, Nat.le_refl, encI_len, ↓ix_enc, Try.results14, usedN, scN, hb, e1]
    rw [if_neg h1, if_pos h2]
  · simp (implicitDefEqProofs := false) (disch := omega) only [go_sem, reduceCtorEq, Nat.reduceEqDiff, Nat.reduceBEq, ↓reduceIte, Nat.reduceGT, Nat.reduceAdd, Int.reduceEq, Int.reduceLT, Int.reduceLE, Int.reduceNeg, Int.reduceAdd, Int.reduceSub, Int.reduceMul, Int.reduceDiv, Int.reduceMod, Nat.reduceLT, Nat.reduceLeDiff, Nat.reduceMul, Nat.reduceSub, Int.reduceToNat, go_sem, Nat.le_refl, encI_len, ↓ix_enc, Try.results14, usedN, scN, hb, e1]
    rw [if_neg h1, if_neg h2]
set_option maxHeartbeats 2000000 in
theorem rnextM_ok (z u b : Int) (hz : 0 ≤ z ∧ z ≤ 18446744073709551615) (hu : 0 ≤ u ∧ u ≤ 1000000) : Ok Try.prog 14 [.agg [.sl [], vB true, vU z, vI u], vI b] (.tup [.agg [.sl [], vB true, vU (mxS z b), vI (usedN u b)], vI (mxN z b)]) := by
  refine Ok.of_pwp (by kernel_rfl) Try.func14 rfl (by kernel_rfl) (by kernel_rfl) ?_
  by_cases hb1 : b < 1
  · have hb := okB_F (b := b) (by omega)
    simp (implicitDefEqProofs := false) (disch := omega) only [go_sem, reduceCtorEq, Nat.reduceEqDiff, Nat.reduceBEq, ↓reduceIte, Nat.reduceGT, Nat.reduceAdd, Int.reduceEq, Int.reduceLT, Int.reduceLE, Int.reduceNeg, Int.reduceAdd, Int.reduceSub, Int.reduceMul, Int.reduceDiv, Int.reduceMod, Nat.reduceLT, Nat.reduceLeDiff, Nat.reduceMul, Nat.reduceSub, Int.reduceToNat, go_sem, Nat.le_refl, encI_len, ↓ix_enc, Try.results14, usedN, mxN, mxS, hb]
  by_cases hb2 : 4294967296 < b
  · have hb := okB_F (b := b) (by omega)
    simp (implicitDefEqProofs := false) (disch := omega) only [go_sem, reduceCtorEq, Nat.reduceEqDiff, Nat.reduceBEq, ↓reduceIte, Nat.reduceGT, Nat.reduceAdd, Int.reduceEq, Int.reduceLT, Int.reduceLE, Int.reduceNeg, Int.reduceAdd, Int.reduceSub, Int.reduceMul, Int.reduceDiv, Int.reduceMod, Nat.reduceLT, Nat.reduceLeDiff, Nat.reduceMul, Nat.reduceSub, Int.reduceToNat, go_sem, Nat.le_refl, encI_len, ↓ix_enc, Try.results14, usedN, mxN, mxS, hb]
  have hb := okB_T (b := b) (by omega) (by omega)
  have c := mixed_ok (IntKind.u64.wrap (z + 11400714819323198485)) (wU _)
  have wb : IntKind.u64.wrap b = b := wU_id (by omega)
  have g1 := (mixF_nn (IntKind.u64.wrap (z + 11400714819323198485))).1
  have g2 := Int.tmod_lt_of_pos (mixF (IntKind.u64.wrap (z + 11400714819323198485))) (show 0 < b by omega)
  have g3 := Int.tmod_nonneg b g1
  have g4 : IntKind.i64.wrap ((mixF (IntKind.u64.wrap (z + 11400714819323198485))).tmod b) = (mixF (IntKind.u64.wrap (z + 11400714819323198485))).tmod b := by rw [IntKind.wrap_i64]; omega
  simp (implicitDefEqProofs := false) (disch := omega) only [go_sem, reduceCtorEq, Nat.reduceEqDiff, Nat.reduceBEq, ↓reduceIte, Nat.reduceGT, Nat.reduceAdd, Int.reduceEq, Int.reduceLT, Int.reduceLE, Int.reduceNeg, Int.reduceAdd, Int.reduceSub, Int.reduceMul, Int.reduceDiv, Int.reduceMod, Nat.reduceLT, Nat.reduceLeDiff, Nat.reduceMul, Nat.reduceSub, Int.reduceToNat, go_sem, Nat.le_refl, encI_len, ↓ix_enc, Try.results14, usedN, mxN, mxS, hb, wb]
  with_reducible refine CallOk.of c rfl ?_
  simp (implicitDefEqProofs := false) (disch := omega) only [go_sem, reduceCtorEq, Nat.reduceEqDiff, Nat.reduceBEq, ↓reduceIte, Nat.reduceGT, Nat.reduceAdd, Int.reduceEq, Int.reduceLT, Int.reduceLE, Int.reduceNeg, Int.reduceAdd, Int.reduceSub, Int.reduceMul, Int.reduceDiv, Int.reduceMod, Nat.reduceLT, Nat.reduceLeDiff, Nat.reduceMul, Nat.reduceSub, Int.reduceToNat, go_sem, Nat.le_refl, encI_len, ↓ix_enc, Try.results14, usedN, mxN, mxS, hb, wb, g4]
end Go.Proofs.Ytmenmfibpbpblaa
