/-
  The law of makers.
-/
import Derived.Test.YtefhongghmimgaaCL
import Derived.Test.YtefhongghmimgaaX1
import Derived.Test.YtefhongghmimgaaV8
open Go Go.Proofs Go.Pw Go.RowKit
namespace Go.Proofs.Ytefhongghmimgaa
set_option maxRecDepth 4000
set_option linter.unusedVariables false
set_option linter.unusedSimpArgs false
theorem truth_ok (b : Bool) : Ok Try.prog 29 [vB b] (.agg (cellsV (.mk 1 b 0 ByteArray.empty [] []))) := by
  refine Ok.of_pwp (by kernel_rfl) Try.func29 rfl (by kernel_rfl) (by kernel_rfl) ?_
  simp (implicitDefEqProofs := false) (disch := omega) only [go_sem, reduceCtorEq, Nat.reduceEqDiff, Nat.reduceBEq, ↓reduceIte, Nat.reduceGT, Nat.reduceAdd, Int.reduceEq, Int.reduceLT, Int.reduceLE, Int.reduceNeg, Int.reduceAdd, Int.reduceSub, Int.reduceMul, Int.reduceDiv, Int.reduceMod, Nat.reduceLT, Nat.reduceLeDiff, Nat.reduceMul, Nat.reduceSub, Int.reduceToNat, go_sem, Nat.le_refl, cellsV, encV_nil, encT_nil, Try.results29]
theorem vtext_ok (s : ByteArray) : Ok Try.prog 31 [vS s] (.agg (cellsV (.mk 3 false 0 s [] []))) := by
  refine Ok.of_pwp (by kernel_rfl) Try.func31 rfl (by kernel_rfl) (by kernel_rfl) ?_
  simp (implicitDefEqProofs := false) (disch := omega) only [go_sem, reduceCtorEq, Nat.reduceEqDiff, Nat.reduceBEq, ↓reduceIte, Nat.reduceGT, Nat.reduceAdd, Int.reduceEq, Int.reduceLT, Int.reduceLE, Int.reduceNeg, Int.reduceAdd, Int.reduceSub, Int.reduceMul, Int.reduceDiv, Int.reduceMod, Nat.reduceLT, Nat.reduceLeDiff, Nat.reduceMul, Nat.reduceSub, Int.reduceToNat, go_sem, Nat.le_refl, cellsV, encV_nil, encT_nil, Try.results31]
theorem list_ok (l : List V) (hl : l.length ≤ 1000000) : Ok Try.prog 28 [.sl (encV l)] (.agg (cellsV (.mk 4 false 0 ByteArray.empty l []))) := by
  have c := cloneV_ok l hl
  refine Ok.of_pwp (by kernel_rfl) Try.func28 rfl (by kernel_rfl) (by kernel_rfl) ?_
  simp (implicitDefEqProofs := false) (disch := omega) only [go_sem, reduceCtorEq, Nat.reduceEqDiff, Nat.reduceBEq, ↓reduceIte, Nat.reduceGT, Nat.reduceAdd, Int.reduceEq, Int.reduceLT, Int.reduceLE, Int.reduceNeg, Int.reduceAdd, Int.reduceSub, Int.reduceMul, Int.reduceDiv, Int.reduceMod, Nat.reduceLT, Nat.reduceLeDiff, Nat.reduceMul, Nat.reduceSub, Int.reduceToNat, go_sem, Nat.le_refl, cellsV, encV_nil, encT_nil, Try.results28]
  with_reducible refine CallOk.of c rfl ?_
  simp (implicitDefEqProofs := false) (disch := omega) only [go_sem, reduceCtorEq, Nat.reduceEqDiff, Nat.reduceBEq, ↓reduceIte, Nat.reduceGT, Nat.reduceAdd, Int.reduceEq, Int.reduceLT, Int.reduceLE, Int.reduceNeg, Int.reduceAdd, Int.reduceSub, Int.reduceMul, Int.reduceDiv, Int.reduceMod, Nat.reduceLT, Nat.reduceLeDiff, Nat.reduceMul, Nat.reduceSub, Int.reduceToNat, go_sem, Nat.le_refl, cellsV, encV_nil, encT_nil, Try.results28]
set_option maxHeartbeats 4000000 in
theorem makes_ok (b : Bool) (n : Int) (s : ByteArray) (hn : -9223372036854775808 ≤ n ∧ n ≤ 9223372036854775807) (hs : s.size ≤ 140737488351232) : Ok Try.prog 8 [vB b, vI n, vS s] (vB true) := by
  refine Ok.of_pwp (by kernel_rfl) Try.func8 rfl (by kernel_rfl) (by kernel_rfl) ?_
  simp (implicitDefEqProofs := false) (disch := omega) only [go_sem, reduceCtorEq, Nat.reduceEqDiff, Nat.reduceBEq, ↓reduceIte, Nat.reduceGT, Nat.reduceAdd, Int.reduceEq, Int.reduceLT, Int.reduceLE, Int.reduceNeg, Int.reduceAdd, Int.reduceSub, Int.reduceMul, Int.reduceDiv, Int.reduceMod, Nat.reduceLT, Nat.reduceLeDiff, Nat.reduceMul, Nat.reduceSub, Int.reduceToNat, go_sem, Nat.le_refl, cellsV, encV_nil, encT_nil, Try.results8]
  with_reducible refine CallOk.of (awake_ok) rfl ?_
  simp (implicitDefEqProofs := false) (disch := omega) only [go_sem, reduceCtorEq, Nat.reduceEqDiff, Nat.reduceBEq, ↓reduceIte, Nat.reduceGT, Nat.reduceAdd, Int.reduceEq, Int.reduceLT, Int.reduceLE, Int.reduceNeg, Int.reduceAdd, Int.reduceSub, Int.reduceMul, Int.reduceDiv, Int.reduceMod, Nat.reduceLT, Nat.reduceLeDiff, Nat.reduceMul, Nat.reduceSub, Int.reduceToNat, go_sem, Nat.le_refl, cellsV, encV_nil, encT_nil, Try.results8]
  by_cases h1 : s.size ≤ 200
  rotate_left
  · simp (implicitDefEqProofs := false) (disch := omega) only [go_sem, reduceCtorEq, Nat.reduceEqDiff, Nat.reduceBEq, ↓reduceIte, Nat.reduceGT, Nat.reduceAdd, Int.reduceEq, Int.reduceLT, Int.reduceLE, Int.reduceNeg, Int.reduceAdd, Int.reduceSub, Int.reduceMul, Int.reduceDiv, Int.reduceMod, Nat.reduceLT, Nat.reduceLeDiff, Nat.reduceMul, Nat.reduceSub, Int.reduceToNat, go_sem, Nat.le_refl, cellsV, encV_nil, encT_nil, Try.results8]
    with_reducible refine CallOk.of (awake_ok) rfl ?_
    simp (implicitDefEqProofs := false) (disch := omega) only [go_sem, reduceCtorEq, Nat.reduceEqDiff, Nat.reduceBEq, ↓reduceIte, Nat.reduceGT, Nat.reduceAdd, Int.reduceEq, Int.reduceLT, Int.reduceLE, Int.reduceNeg, Int.reduceAdd, Int.reduceSub, Int.reduceMul, Int.reduceDiv, Int.reduceMod, Nat.reduceLT, Nat.reduceLeDiff, Nat.reduceMul, Nat.reduceSub, Int.reduceToNat, go_sem, Nat.le_refl, cellsV, encV_nil, encT_nil, Try.results8]
  have rv := rvalid_ok s (by omega)
  have ev : decide ((scan s 0).2 = s.size) = isT s := rfl
  rw [ev] at rv
  cases ht : isT s with
  | false =>
    rw [ht] at rv
    simp (implicitDefEqProofs := false) (disch := omega) only [go_sem, reduceCtorEq, Nat.reduceEqDiff, Nat.reduceBEq, ↓reduceIte, Nat.reduceGT, Nat.reduceAdd, Int.reduceEq, Int.reduceLT, Int.reduceLE, Int.reduceNeg, Int.reduceAdd, Int.reduceSub, Int.reduceMul, Int.reduceDiv, Int.reduceMod, Nat.reduceLT, Nat.reduceLeDiff, Nat.reduceMul, Nat.reduceSub, Int.reduceToNat, go_sem, Nat.le_refl, cellsV, encV_nil, encT_nil, Try.results8]
    with_reducible refine CallOk.of (rv) rfl ?_
    simp (implicitDefEqProofs := false) (disch := omega) only [go_sem, reduceCtorEq, Nat.reduceEqDiff, Nat.reduceBEq, ↓reduceIte, Nat.reduceGT, Nat.reduceAdd, Int.reduceEq, Int.reduceLT, Int.reduceLE, Int.reduceNeg, Int.reduceAdd, Int.reduceSub, Int.reduceMul, Int.reduceDiv, Int.reduceMod, Nat.reduceLT, Nat.reduceLeDiff, Nat.reduceMul, Nat.reduceSub, Int.reduceToNat, go_sem, Nat.le_refl, cellsV, encV_nil, encT_nil, Try.results8]
    with_reducible refine CallOk.of (awake_ok) rfl ?_
    simp (implicitDefEqProofs := false) (disch := omega) only [go_sem, reduceCtorEq, Nat.reduceEqDiff, Nat.reduceBEq, ↓reduceIte, Nat.reduceGT, Nat.reduceAdd, Int.reduceEq, Int.reduceLT, Int.reduceLE, Int.reduceNeg, Int.reduceAdd, Int.reduceSub, Int.reduceMul, Int.reduceDiv, Int.reduceMod, Nat.reduceLT, Nat.reduceLeDiff, Nat.reduceMul, Nat.reduceSub, Int.reduceToNat, go_sem, Nat.le_refl, cellsV, encV_nil, encT_nil, Try.results8]
  | true =>
    rw [ht] at rv
    have hsz : szV (.mk 4 false 0 ByteArray.empty [.mk 1 b 0 ByteArray.empty [] [], .mk 2 false n ByteArray.empty [] [], .mk 3 false 0 s [] [], vZero] []) ≤ 1000 := by
      simp only [szV_eq, szVs_cons, szVs_nil, V.s_mk, V.keys_mk, V.items_mk, vZero, szT, show ByteArray.empty.size = 0 from rfl]
      omega
    have hgood : goodB (.mk 4 false 0 ByteArray.empty [.mk 1 b 0 ByteArray.empty [] [], .mk 2 false n ByteArray.empty [] [], .mk 3 false 0 s [] [], vZero] []) = true := by
      simp only [goodB_eq, V.kind_mk, V.b_mk, V.n_mk, V.s_mk, V.items_mk, V.keys_mk, vZero, isT_empty, ht, List.all_cons, List.all_nil]
      simp [bareB, keyedB, sortB]
    have l1 := list_ok [.mk 1 b 0 ByteArray.empty [] [], .mk 2 false n ByteArray.empty [] [], .mk 3 false 0 s [] [], vZero] (by simp)
    have g1 := good_ok (.mk 4 false 0 ByteArray.empty [.mk 1 b 0 ByteArray.empty [] [], .mk 2 false n ByteArray.empty [] [], .mk 3 false 0 s [] [], vZero] []) (by omega)
    have r1 := ref_ok (.mk 4 false 0 ByteArray.empty [.mk 1 b 0 ByteArray.empty [] [], .mk 2 false n ByteArray.empty [] [], .mk 3 false 0 s [] [], vZero] []) (by omega)
    have s1 := same_ok (.mk 4 false 0 ByteArray.empty [.mk 1 b 0 ByteArray.empty [] [], .mk 2 false n ByteArray.empty [] [], .mk 3 false 0 s [] [], vZero] []) (by omega) (.mk 4 false 0 ByteArray.empty [.mk 1 b 0 ByteArray.empty [] [], .mk 2 false n ByteArray.empty [] [], .mk 3 false 0 s [] [], vZero] []) (by omega)
    have l2 := list_ok [] (by simp)
    have r2 := ref_ok (.mk 4 false 0 ByteArray.empty [] []) (by rw [szV_eq]; decide +kernel)
    have s2 := same_ok (.mk 4 false 0 ByteArray.empty [] []) (by rw [szV_eq]; decide +kernel) (.mk 4 false 0 ByteArray.empty [] []) (by rw [szV_eq]; decide +kernel)
    rw [sameV_T rfl] at s1 s2
    rw [hgood] at g1
    simp only [cellsV, V.kind_mk, V.b_mk, V.n_mk, V.s_mk, V.items_mk, V.keys_mk, encV_cons, encV_nil, encT_nil, vZero] at l1 g1 r1 s1 l2 r2 s2
    have t1 := truth_ok b
    have t2 := num_ok n
    have t3 := vtext_ok s
    simp only [cellsV, V.kind_mk, V.b_mk, V.n_mk, V.s_mk, V.items_mk, V.keys_mk, encV_nil, encT_nil] at t1 t2 t3
    simp (implicitDefEqProofs := false) (disch := omega) only [go_sem, reduceCtorEq, Nat.reduceEqDiff, Nat.reduceBEq, ↓reduceIte, Nat.reduceGT, Nat.reduceAdd, Int.reduceEq, Int.reduceLT, Int.reduceLE, Int.reduceNeg, Int.reduceAdd, Int.reduceSub, Int.reduceMul, Int.reduceDiv, Int.reduceMod, Nat.reduceLT, Nat.reduceLeDiff, Nat.reduceMul, Nat.reduceSub, Int.reduceToNat, go_sem, Nat.le_refl, cellsV, encV_nil, encT_nil, Try.results8]
    with_reducible refine CallOk.of (rv) rfl ?_
    simp (implicitDefEqProofs := false) (disch := omega) only [go_sem, reduceCtorEq, Nat.reduceEqDiff, Nat.reduceBEq, ↓reduceIte, Nat.reduceGT, Nat.reduceAdd, Int.reduceEq, Int.reduceLT, Int.reduceLE, Int.reduceNeg, Int.reduceAdd, Int.reduceSub, Int.reduceMul, Int.reduceDiv, Int.reduceMod, Nat.reduceLT, Nat.reduceLeDiff, Nat.reduceMul, Nat.reduceSub, Int.reduceToNat, go_sem, Nat.le_refl, cellsV, encV_nil, encT_nil, Try.results8]
    with_reducible refine CallOk.of (t1) rfl ?_
    simp (implicitDefEqProofs := false) (disch := omega) only [go_sem, reduceCtorEq, Nat.reduceEqDiff, Nat.reduceBEq, ↓reduceIte, Nat.reduceGT, Nat.reduceAdd, Int.reduceEq, Int.reduceLT, Int.reduceLE, Int.reduceNeg, Int.reduceAdd, Int.reduceSub, Int.reduceMul, Int.reduceDiv, Int.reduceMod, Nat.reduceLT, Nat.reduceLeDiff, Nat.reduceMul, Nat.reduceSub, Int.reduceToNat, go_sem, Nat.le_refl, cellsV, encV_nil, encT_nil, Try.results8]
    with_reducible refine CallOk.of (t2) rfl ?_
    simp (implicitDefEqProofs := false) (disch := omega) only [go_sem, reduceCtorEq, Nat.reduceEqDiff, Nat.reduceBEq, ↓reduceIte, Nat.reduceGT, Nat.reduceAdd, Int.reduceEq, Int.reduceLT, Int.reduceLE, Int.reduceNeg, Int.reduceAdd, Int.reduceSub, Int.reduceMul, Int.reduceDiv, Int.reduceMod, Nat.reduceLT, Nat.reduceLeDiff, Nat.reduceMul, Nat.reduceSub, Int.reduceToNat, go_sem, Nat.le_refl, cellsV, encV_nil, encT_nil, Try.results8]
    with_reducible refine CallOk.of (t3) rfl ?_
    simp (implicitDefEqProofs := false) (disch := omega) only [go_sem, reduceCtorEq, Nat.reduceEqDiff, Nat.reduceBEq, ↓reduceIte, Nat.reduceGT, Nat.reduceAdd, Int.reduceEq, Int.reduceLT, Int.reduceLE, Int.reduceNeg, Int.reduceAdd, Int.reduceSub, Int.reduceMul, Int.reduceDiv, Int.reduceMod, Nat.reduceLT, Nat.reduceLeDiff, Nat.reduceMul, Nat.reduceSub, Int.reduceToNat, go_sem, Nat.le_refl, cellsV, encV_nil, encT_nil, Try.results8]
    with_reducible refine CallOk.of (l1) rfl ?_
    simp (implicitDefEqProofs := false) (disch := omega) only [go_sem, reduceCtorEq, Nat.reduceEqDiff, Nat.reduceBEq, ↓reduceIte, Nat.reduceGT, Nat.reduceAdd, Int.reduceEq, Int.reduceLT, Int.reduceLE, Int.reduceNeg, Int.reduceAdd, Int.reduceSub, Int.reduceMul, Int.reduceDiv, Int.reduceMod, Nat.reduceLT, Nat.reduceLeDiff, Nat.reduceMul, Nat.reduceSub, Int.reduceToNat, go_sem, Nat.le_refl, cellsV, encV_nil, encT_nil, Try.results8]
    with_reducible refine CallOk.of (g1) rfl ?_
    simp (implicitDefEqProofs := false) (disch := omega) only [go_sem, reduceCtorEq, Nat.reduceEqDiff, Nat.reduceBEq, ↓reduceIte, Nat.reduceGT, Nat.reduceAdd, Int.reduceEq, Int.reduceLT, Int.reduceLE, Int.reduceNeg, Int.reduceAdd, Int.reduceSub, Int.reduceMul, Int.reduceDiv, Int.reduceMod, Nat.reduceLT, Nat.reduceLeDiff, Nat.reduceMul, Nat.reduceSub, Int.reduceToNat, go_sem, Nat.le_refl, cellsV, encV_nil, encT_nil, Try.results8]
    with_reducible refine CallOk.of (r1) rfl ?_
    simp (implicitDefEqProofs := false) (disch := omega) only [go_sem, reduceCtorEq, Nat.reduceEqDiff, Nat.reduceBEq, ↓reduceIte, Nat.reduceGT, Nat.reduceAdd, Int.reduceEq, Int.reduceLT, Int.reduceLE, Int.reduceNeg, Int.reduceAdd, Int.reduceSub, Int.reduceMul, Int.reduceDiv, Int.reduceMod, Nat.reduceLT, Nat.reduceLeDiff, Nat.reduceMul, Nat.reduceSub, Int.reduceToNat, go_sem, Nat.le_refl, cellsV, encV_nil, encT_nil, Try.results8]
    with_reducible refine CallOk.of (s1) rfl ?_
    simp (implicitDefEqProofs := false) (disch := omega) only [go_sem, reduceCtorEq, Nat.reduceEqDiff, Nat.reduceBEq, ↓reduceIte, Nat.reduceGT, Nat.reduceAdd, Int.reduceEq, Int.reduceLT, Int.reduceLE, Int.reduceNeg, Int.reduceAdd, Int.reduceSub, Int.reduceMul, Int.reduceDiv, Int.reduceMod, Nat.reduceLT, Nat.reduceLeDiff, Nat.reduceMul, Nat.reduceSub, Int.reduceToNat, go_sem, Nat.le_refl, cellsV, encV_nil, encT_nil, Try.results8]
    with_reducible refine CallOk.of (l2) rfl ?_
    simp (implicitDefEqProofs := false) (disch := omega) only [go_sem, reduceCtorEq, Nat.reduceEqDiff, Nat.reduceBEq, ↓reduceIte, Nat.reduceGT, Nat.reduceAdd, Int.reduceEq, Int.reduceLT, Int.reduceLE, Int.reduceNeg, Int.reduceAdd, Int.reduceSub, Int.reduceMul, Int.reduceDiv, Int.reduceMod, Nat.reduceLT, Nat.reduceLeDiff, Nat.reduceMul, Nat.reduceSub, Int.reduceToNat, go_sem, Nat.le_refl, cellsV, encV_nil, encT_nil, Try.results8]
    with_reducible refine CallOk.of (r2) rfl ?_
    simp (implicitDefEqProofs := false) (disch := omega) only [go_sem, reduceCtorEq, Nat.reduceEqDiff, Nat.reduceBEq, ↓reduceIte, Nat.reduceGT, Nat.reduceAdd, Int.reduceEq, Int.reduceLT, Int.reduceLE, Int.reduceNeg, Int.reduceAdd, Int.reduceSub, Int.reduceMul, Int.reduceDiv, Int.reduceMod, Nat.reduceLT, Nat.reduceLeDiff, Nat.reduceMul, Nat.reduceSub, Int.reduceToNat, go_sem, Nat.le_refl, cellsV, encV_nil, encT_nil, Try.results8]
    with_reducible refine CallOk.of (s2) rfl ?_
    simp (implicitDefEqProofs := false) (disch := omega) only [go_sem, reduceCtorEq, Nat.reduceEqDiff, Nat.reduceBEq, ↓reduceIte, Nat.reduceGT, Nat.reduceAdd, Int.reduceEq, Int.reduceLT, Int.reduceLE, Int.reduceNeg, Int.reduceAdd, Int.reduceSub, Int.reduceMul, Int.reduceDiv, Int.reduceMod, Nat.reduceLT, Nat.reduceLeDiff, Nat.reduceMul, Nat.reduceSub, Int.reduceToNat, go_sem, Nat.le_refl, cellsV, encV_nil, encT_nil, Try.results8]
end Go.Proofs.Ytefhongghmimgaa
