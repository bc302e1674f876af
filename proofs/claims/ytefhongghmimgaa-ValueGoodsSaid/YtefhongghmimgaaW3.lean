/-
  The law of good values.
-/
import Derived.Test.YtefhongghmimgaaVT
import Derived.Test.YtefhongghmimgaaX2
open Go Go.Proofs Go.Pw Go.RowKit
namespace Go.Proofs.Ytefhongghmimgaa
set_option maxRecDepth 4000
set_option linter.unusedVariables false
set_option linter.unusedSimpArgs false
theorem szV_with {v w : V} (h : szV w ≤ szV v + 1000) (hv : szV v ≤ 5000) : szV w ≤ 1000000 := by omega
theorem szT_app : ∀ (l m : List ByteArray), szT (l ++ m) = szT l + szT m
  | [], m => by rw [szT, List.nil_append, Nat.zero_add]
  | k :: r, m => by rw [List.cons_append, szT, szT, szT_app r m]; omega
theorem szone (k : Int) : szV (.mk k false 0 ByteArray.empty [] []) = 1 := by rw [szV_eq]; rfl
theorem encT_snoc' (l : List ByteArray) (s : ByteArray) : encT (l ++ [s]) = encT l ++ [[vS s]] := by simp [encT]
set_option maxHeartbeats 16000000 in
theorem goods_ok (l : List Nd) (x : Nd) (w : Int) (hN : NdsOk l) (hl : l.length ≤ 9223372036854775807) (hx : NdOk x) (hw : 0 ≤ w ∧ w ≤ 255) : Ok Try.prog 5 [.sl (encN l), .agg (cellsN x), .val (.int .u8 w)] (vB true) := by
  refine Ok.of_pwp (by kernel_rfl) Try.func5 rfl (by kernel_rfl) (by kernel_rfl) ?_
  obtain ⟨hxk, hxi, hil, hkl⟩ := hx
  simp (implicitDefEqProofs := false) (disch := omega) only [go_sem, reduceCtorEq, Nat.reduceEqDiff, Nat.reduceBEq, ↓reduceIte, Nat.reduceGT, Nat.reduceAdd, Int.reduceEq, Int.reduceLT, Int.reduceLE, Int.reduceNeg, Int.reduceAdd, Int.reduceSub, Int.reduceMul, Int.reduceDiv, Int.reduceMod, Nat.reduceLT, Nat.reduceLeDiff, Nat.reduceMul, Nat.reduceSub, Int.reduceToNat, go_sem, Nat.le_refl, cellsV, cellsN, Try.results5, decide_true, decide_eq_true_eq, beq_self_eq_true]
  with_reducible refine CallOk.of (awake_ok) rfl ?_
  simp (implicitDefEqProofs := false) (disch := omega) only [go_sem, reduceCtorEq, Nat.reduceEqDiff, Nat.reduceBEq, ↓reduceIte, Nat.reduceGT, Nat.reduceAdd, Int.reduceEq, Int.reduceLT, Int.reduceLE, Int.reduceNeg, Int.reduceAdd, Int.reduceSub, Int.reduceMul, Int.reduceDiv, Int.reduceMod, Nat.reduceLT, Nat.reduceLeDiff, Nat.reduceMul, Nat.reduceSub, Int.reduceToNat, go_sem, Nat.le_refl, cellsV, cellsN, Try.results5, decide_true, decide_eq_true_eq, beq_self_eq_true]
  by_cases h1 : x.items.length ≤ 10
  rotate_left
  · simp (implicitDefEqProofs := false) (disch := omega) only [go_sem, reduceCtorEq, Nat.reduceEqDiff, Nat.reduceBEq, ↓reduceIte, Nat.reduceGT, Nat.reduceAdd, Int.reduceEq, Int.reduceLT, Int.reduceLE, Int.reduceNeg, Int.reduceAdd, Int.reduceSub, Int.reduceMul, Int.reduceDiv, Int.reduceMod, Nat.reduceLT, Nat.reduceLeDiff, Nat.reduceMul, Nat.reduceSub, Int.reduceToNat, go_sem, Nat.le_refl, cellsV, cellsN, Try.results5, decide_true, decide_eq_true_eq, beq_self_eq_true]
    with_reducible refine CallOk.of (awake_ok) rfl ?_
    simp (implicitDefEqProofs := false) (disch := omega) only [go_sem, reduceCtorEq, Nat.reduceEqDiff, Nat.reduceBEq, ↓reduceIte, Nat.reduceGT, Nat.reduceAdd, Int.reduceEq, Int.reduceLT, Int.reduceLE, Int.reduceNeg, Int.reduceAdd, Int.reduceSub, Int.reduceMul, Int.reduceDiv, Int.reduceMod, Nat.reduceLT, Nat.reduceLeDiff, Nat.reduceMul, Nat.reduceSub, Int.reduceToNat, go_sem, Nat.le_refl, cellsV, cellsN, Try.results5, decide_true, decide_eq_true_eq, beq_self_eq_true]
  by_cases h2 : x.keys.length ≤ 10
  rotate_left
  · simp (implicitDefEqProofs := false) (disch := omega) only [go_sem, reduceCtorEq, Nat.reduceEqDiff, Nat.reduceBEq, ↓reduceIte, Nat.reduceGT, Nat.reduceAdd, Int.reduceEq, Int.reduceLT, Int.reduceLE, Int.reduceNeg, Int.reduceAdd, Int.reduceSub, Int.reduceMul, Int.reduceDiv, Int.reduceMod, Nat.reduceLT, Nat.reduceLeDiff, Nat.reduceMul, Nat.reduceSub, Int.reduceToNat, go_sem, Nat.le_refl, cellsV, cellsN, Try.results5, decide_true, decide_eq_true_eq, beq_self_eq_true]
    with_reducible refine CallOk.of (awake_ok) rfl ?_
    simp (implicitDefEqProofs := false) (disch := omega) only [go_sem, reduceCtorEq, Nat.reduceEqDiff, Nat.reduceBEq, ↓reduceIte, Nat.reduceGT, Nat.reduceAdd, Int.reduceEq, Int.reduceLT, Int.reduceLE, Int.reduceNeg, Int.reduceAdd, Int.reduceSub, Int.reduceMul, Int.reduceDiv, Int.reduceMod, Nat.reduceLT, Nat.reduceLeDiff, Nat.reduceMul, Nat.reduceSub, Int.reduceToNat, go_sem, Nat.le_refl, cellsV, cellsN, Try.results5, decide_true, decide_eq_true_eq, beq_self_eq_true]
  by_cases h3 : x.s.size ≤ 100
  rotate_left
  · simp (implicitDefEqProofs := false) (disch := omega) only [go_sem, reduceCtorEq, Nat.reduceEqDiff, Nat.reduceBEq, ↓reduceIte, Nat.reduceGT, Nat.reduceAdd, Int.reduceEq, Int.reduceLT, Int.reduceLE, Int.reduceNeg, Int.reduceAdd, Int.reduceSub, Int.reduceMul, Int.reduceDiv, Int.reduceMod, Nat.reduceLT, Nat.reduceLeDiff, Nat.reduceMul, Nat.reduceSub, Int.reduceToNat, go_sem, Nat.le_refl, cellsV, cellsN, Try.results5, decide_true, decide_eq_true_eq, beq_self_eq_true]
    with_reducible refine CallOk.of (awake_ok) rfl ?_
    simp (implicitDefEqProofs := false) (disch := omega) only [go_sem, reduceCtorEq, Nat.reduceEqDiff, Nat.reduceBEq, ↓reduceIte, Nat.reduceGT, Nat.reduceAdd, Int.reduceEq, Int.reduceLT, Int.reduceLE, Int.reduceNeg, Int.reduceAdd, Int.reduceSub, Int.reduceMul, Int.reduceDiv, Int.reduceMod, Nat.reduceLT, Nat.reduceLeDiff, Nat.reduceMul, Nat.reduceSub, Int.reduceToNat, go_sem, Nat.le_refl, cellsV, cellsN, Try.results5, decide_true, decide_eq_true_eq, beq_self_eq_true]
  simp (implicitDefEqProofs := false) (disch := omega) only [go_sem, reduceCtorEq, Nat.reduceEqDiff, Nat.reduceBEq, ↓reduceIte, Nat.reduceGT, Nat.reduceAdd, Int.reduceEq, Int.reduceLT, Int.reduceLE, Int.reduceNeg, Int.reduceAdd, Int.reduceSub, Int.reduceMul, Int.reduceDiv, Int.reduceMod, Nat.reduceLT, Nat.reduceLeDiff, Nat.reduceMul, Nat.reduceSub, Int.reduceToNat, go_sem, Nat.le_refl, cellsV, cellsN, Try.results5, decide_true, decide_eq_true_eq, beq_self_eq_true]
  refine CallOk.ofI (OkI.ofQ (st := ⟨[], _, _, _, _⟩) (tree_ok l hN hl) ?_) rfl rfl rfl rfl ?_
  · rfl
  rintro r st1 ⟨⟨v, hv, rfl⟩, rfl⟩
  have hs := hv.sz
  have heq := szV_eq v
  obtain ⟨hvl, hvl2, _, _⟩ := V.small hs
  have c1 := real_ok v (by omega)
  have c2 := good_ok v (by omega)
  rw [hv.good] at c2
  simp (implicitDefEqProofs := false) (disch := omega) only [go_sem, reduceCtorEq, Nat.reduceEqDiff, Nat.reduceBEq, ↓reduceIte, Nat.reduceGT, Nat.reduceAdd, Int.reduceEq, Int.reduceLT, Int.reduceLE, Int.reduceNeg, Int.reduceAdd, Int.reduceSub, Int.reduceMul, Int.reduceDiv, Int.reduceMod, Nat.reduceLT, Nat.reduceLeDiff, Nat.reduceMul, Nat.reduceSub, Int.reduceToNat, go_sem, Nat.le_refl, cellsV, cellsN, Try.results5, decide_true, decide_eq_true_eq, beq_self_eq_true]
  with_reducible refine CallOk.of (c1) rfl ?_
  simp (implicitDefEqProofs := false) (disch := omega) only [go_sem, reduceCtorEq, Nat.reduceEqDiff, Nat.reduceBEq, ↓reduceIte, Nat.reduceGT, Nat.reduceAdd, Int.reduceEq, Int.reduceLT, Int.reduceLE, Int.reduceNeg, Int.reduceAdd, Int.reduceSub, Int.reduceMul, Int.reduceDiv, Int.reduceMod, Nat.reduceLT, Nat.reduceLeDiff, Nat.reduceMul, Nat.reduceSub, Int.reduceToNat, go_sem, Nat.le_refl, cellsV, cellsN, Try.results5, decide_true, decide_eq_true_eq, beq_self_eq_true]
  with_reducible refine CallOk.of (c2) rfl ?_
  simp (implicitDefEqProofs := false) (disch := omega) only [go_sem, reduceCtorEq, Nat.reduceEqDiff, Nat.reduceBEq, ↓reduceIte, Nat.reduceGT, Nat.reduceAdd, Int.reduceEq, Int.reduceLT, Int.reduceLE, Int.reduceNeg, Int.reduceAdd, Int.reduceSub, Int.reduceMul, Int.reduceDiv, Int.reduceMod, Nat.reduceLT, Nat.reduceLeDiff, Nat.reduceMul, Nat.reduceSub, Int.reduceToNat, go_sem, Nat.le_refl, cellsV, cellsN, Try.results5, decide_true, decide_eq_true_eq, beq_self_eq_true]
  have hq1 : 0 ≤ w.tmod 6 ∧ w.tmod 6 ≤ 5 := by rw [Int.tmod_eq_emod_of_nonneg hw.1]; omega
  generalize w.tmod 6 = q at *
  have hq : q = 0 ∨ q = 1 ∨ q = 2 ∨ q = 3 ∨ q = 4 ∨ q = 5 := by omega
  rcases hq with rfl | rfl | rfl | rfl | rfl | rfl
  · obtain ⟨k, hk8⟩ : ∃ k, IntKind.wrap .i64 (IntKind.wrap .i8 x.kind) = k := ⟨_, rfl⟩
    have d1 := real_ok (.mk k v.b v.n v.s v.items v.keys) (by rw [szV_eq]; simp only [V.s_mk, V.keys_mk, V.items_mk, szT_app, szVs_app, szVs_cons, szVs_nil, szT, szone]; omega)
    have d2 := good_ok (.mk k v.b v.n v.s v.items v.keys) (by rw [szV_eq]; simp only [V.s_mk, V.keys_mk, V.items_mk, szT_app, szVs_app, szVs_cons, szVs_nil, szT, szone]; omega)
    have d3 := rgood_ok (.mk k v.b v.n v.s v.items v.keys) (by rw [szV_eq]; simp only [V.s_mk, V.keys_mk, V.items_mk, szT_app, szVs_app, szVs_cons, szVs_nil, szT, szone]; omega)
    generalize goodB (.mk k v.b v.n v.s v.items v.keys) = gg at *
    simp only [cellsV, V.kind_mk, V.b_mk, V.n_mk, V.s_mk, V.items_mk, V.keys_mk, encV_snoc', encT_snoc', encV_nil, encT_nil] at d1 d2 d3
    simp (implicitDefEqProofs := false) (disch := omega) only [go_sem, reduceCtorEq, Nat.reduceEqDiff, Nat.reduceBEq, ↓reduceIte, Nat.reduceGT, Nat.reduceAdd, Int.reduceEq, Int.reduceLT, Int.reduceLE, Int.reduceNeg, Int.reduceAdd, Int.reduceSub, Int.reduceMul, Int.reduceDiv, Int.reduceMod, Nat.reduceLT, Nat.reduceLeDiff, Nat.reduceMul, Nat.reduceSub, Int.reduceToNat, go_sem, Nat.le_refl, cellsV, cellsN, hk8, Try.results5]
    with_reducible refine CallOk.of d1 rfl ?_
    simp (implicitDefEqProofs := false) (disch := omega) only [go_sem, reduceCtorEq, Nat.reduceEqDiff, Nat.reduceBEq, ↓reduceIte, Nat.reduceGT, Nat.reduceAdd, Int.reduceEq, Int.reduceLT, Int.reduceLE, Int.reduceNeg, Int.reduceAdd, Int.reduceSub, Int.reduceMul, Int.reduceDiv, Int.reduceMod, Nat.reduceLT, Nat.reduceLeDiff, Nat.reduceMul, Nat.reduceSub, Int.reduceToNat, go_sem, Nat.le_refl, cellsV, cellsN, Try.results5, decide_true, decide_eq_true_eq, beq_self_eq_true]
    with_reducible refine CallOk.of d2 rfl ?_
    simp (implicitDefEqProofs := false) (disch := omega) only [go_sem, reduceCtorEq, Nat.reduceEqDiff, Nat.reduceBEq, ↓reduceIte, Nat.reduceGT, Nat.reduceAdd, Int.reduceEq, Int.reduceLT, Int.reduceLE, Int.reduceNeg, Int.reduceAdd, Int.reduceSub, Int.reduceMul, Int.reduceDiv, Int.reduceMod, Nat.reduceLT, Nat.reduceLeDiff, Nat.reduceMul, Nat.reduceSub, Int.reduceToNat, go_sem, Nat.le_refl, cellsV, cellsN, Try.results5, decide_true, decide_eq_true_eq, beq_self_eq_true]
    with_reducible refine CallOk.of d3 rfl ?_
    simp (implicitDefEqProofs := false) (disch := omega) only [go_sem, reduceCtorEq, Nat.reduceEqDiff, Nat.reduceBEq, ↓reduceIte, Nat.reduceGT, Nat.reduceAdd, Int.reduceEq, Int.reduceLT, Int.reduceLE, Int.reduceNeg, Int.reduceAdd, Int.reduceSub, Int.reduceMul, Int.reduceDiv, Int.reduceMod, Nat.reduceLT, Nat.reduceLeDiff, Nat.reduceMul, Nat.reduceSub, Int.reduceToNat, go_sem, Nat.le_refl, cellsV, cellsN, Try.results5, decide_true, decide_eq_true_eq, beq_self_eq_true]
  · have d1 := real_ok (.mk v.kind true v.n v.s v.items v.keys) (by rw [szV_eq]; simp only [V.s_mk, V.keys_mk, V.items_mk, szT_app, szVs_app, szVs_cons, szVs_nil, szT, szone]; omega)
    have d2 := good_ok (.mk v.kind true v.n v.s v.items v.keys) (by rw [szV_eq]; simp only [V.s_mk, V.keys_mk, V.items_mk, szT_app, szVs_app, szVs_cons, szVs_nil, szT, szone]; omega)
    have d3 := rgood_ok (.mk v.kind true v.n v.s v.items v.keys) (by rw [szV_eq]; simp only [V.s_mk, V.keys_mk, V.items_mk, szT_app, szVs_app, szVs_cons, szVs_nil, szT, szone]; omega)
    generalize goodB (.mk v.kind true v.n v.s v.items v.keys) = gg at *
    simp only [cellsV, V.kind_mk, V.b_mk, V.n_mk, V.s_mk, V.items_mk, V.keys_mk, encV_snoc', encT_snoc', encV_nil, encT_nil] at d1 d2 d3
    simp (implicitDefEqProofs := false) (disch := omega) only [go_sem, reduceCtorEq, Nat.reduceEqDiff, Nat.reduceBEq, ↓reduceIte, Nat.reduceGT, Nat.reduceAdd, Int.reduceEq, Int.reduceLT, Int.reduceLE, Int.reduceNeg, Int.reduceAdd, Int.reduceSub, Int.reduceMul, Int.reduceDiv, Int.reduceMod, Nat.reduceLT, Nat.reduceLeDiff, Nat.reduceMul, Nat.reduceSub, Int.reduceToNat, go_sem, Nat.le_refl, cellsV, cellsN, Try.results5]
    with_reducible refine CallOk.of d1 rfl ?_
    simp (implicitDefEqProofs := false) (disch := omega) only [go_sem, reduceCtorEq, Nat.reduceEqDiff, Nat.reduceBEq, ↓reduceIte, Nat.reduceGT, Nat.reduceAdd, Int.reduceEq, Int.reduceLT, Int.reduceLE, Int.reduceNeg, Int.reduceAdd, Int.reduceSub, Int.reduceMul, Int.reduceDiv, Int.reduceMod, Nat.reduceLT, Nat.reduceLeDiff, Nat.reduceMul, Nat.reduceSub, Int.reduceToNat, go_sem, Nat.le_refl, cellsV, cellsN, Try.results5, decide_true, decide_eq_true_eq, beq_self_eq_true]
    with_reducible refine CallOk.of d2 rfl ?_
    simp (implicitDefEqProofs := false) (disch := omega) only [go_sem, reduceCtorEq, Nat.reduceEqDiff, Nat.reduceBEq, ↓reduceIte, Nat.reduceGT, Nat.reduceAdd, Int.reduceEq, Int.reduceLT, Int.reduceLE, Int.reduceNeg, Int.reduceAdd, Int.reduceSub, Int.reduceMul, Int.reduceDiv, Int.reduceMod, Nat.reduceLT, Nat.reduceLeDiff, Nat.reduceMul, Nat.reduceSub, Int.reduceToNat, go_sem, Nat.le_refl, cellsV, cellsN, Try.results5, decide_true, decide_eq_true_eq, beq_self_eq_true]
    with_reducible refine CallOk.of d3 rfl ?_
    simp (implicitDefEqProofs := false) (disch := omega) only [go_sem, reduceCtorEq, Nat.reduceEqDiff, Nat.reduceBEq, ↓reduceIte, Nat.reduceGT, Nat.reduceAdd, Int.reduceEq, Int.reduceLT, Int.reduceLE, Int.reduceNeg, Int.reduceAdd, Int.reduceSub, Int.reduceMul, Int.reduceDiv, Int.reduceMod, Nat.reduceLT, Nat.reduceLeDiff, Nat.reduceMul, Nat.reduceSub, Int.reduceToNat, go_sem, Nat.le_refl, cellsV, cellsN, Try.results5, decide_true, decide_eq_true_eq, beq_self_eq_true]
  · have d1 := real_ok (.mk v.kind v.b x.n v.s v.items v.keys) (by rw [szV_eq]; simp only [V.s_mk, V.keys_mk, V.items_mk, szT_app, szVs_app, szVs_cons, szVs_nil, szT, szone]; omega)
    have d2 := good_ok (.mk v.kind v.b x.n v.s v.items v.keys) (by rw [szV_eq]; simp only [V.s_mk, V.keys_mk, V.items_mk, szT_app, szVs_app, szVs_cons, szVs_nil, szT, szone]; omega)
    have d3 := rgood_ok (.mk v.kind v.b x.n v.s v.items v.keys) (by rw [szV_eq]; simp only [V.s_mk, V.keys_mk, V.items_mk, szT_app, szVs_app, szVs_cons, szVs_nil, szT, szone]; omega)
    generalize goodB (.mk v.kind v.b x.n v.s v.items v.keys) = gg at *
    simp only [cellsV, V.kind_mk, V.b_mk, V.n_mk, V.s_mk, V.items_mk, V.keys_mk, encV_snoc', encT_snoc', encV_nil, encT_nil] at d1 d2 d3
    simp (implicitDefEqProofs := false) (disch := omega) only [go_sem, reduceCtorEq, Nat.reduceEqDiff, Nat.reduceBEq, ↓reduceIte, Nat.reduceGT, Nat.reduceAdd, Int.reduceEq, Int.reduceLT, Int.reduceLE, Int.reduceNeg, Int.reduceAdd, Int.reduceSub, Int.reduceMul, Int.reduceDiv, Int.reduceMod, Nat.reduceLT, Nat.reduceLeDiff, Nat.reduceMul, Nat.reduceSub, Int.reduceToNat, go_sem, Nat.le_refl, cellsV, cellsN, Try.results5]
    with_reducible refine CallOk.of d1 rfl ?_
    simp (implicitDefEqProofs := false) (disch := omega) only [go_sem, reduceCtorEq, Nat.reduceEqDiff, Nat.reduceBEq, ↓reduceIte, Nat.reduceGT, Nat.reduceAdd, Int.reduceEq, Int.reduceLT, Int.reduceLE, Int.reduceNeg, Int.reduceAdd, Int.reduceSub, Int.reduceMul, Int.reduceDiv, Int.reduceMod, Nat.reduceLT, Nat.reduceLeDiff, Nat.reduceMul, Nat.reduceSub, Int.reduceToNat, go_sem, Nat.le_refl, cellsV, cellsN, Try.results5, decide_true, decide_eq_true_eq, beq_self_eq_true]
    with_reducible refine CallOk.of d2 rfl ?_
    simp (implicitDefEqProofs := false) (disch := omega) only [go_sem, reduceCtorEq, Nat.reduceEqDiff, Nat.reduceBEq, ↓reduceIte, Nat.reduceGT, Nat.reduceAdd, Int.reduceEq, Int.reduceLT, Int.reduceLE, Int.reduceNeg, Int.reduceAdd, Int.reduceSub, Int.reduceMul, Int.reduceDiv, Int.reduceMod, Nat.reduceLT, Nat.reduceLeDiff, Nat.reduceMul, Nat.reduceSub, Int.reduceToNat, go_sem, Nat.le_refl, cellsV, cellsN, Try.results5, decide_true, decide_eq_true_eq, beq_self_eq_true]
    with_reducible refine CallOk.of d3 rfl ?_
    simp (implicitDefEqProofs := false) (disch := omega) only [go_sem, reduceCtorEq, Nat.reduceEqDiff, Nat.reduceBEq, ↓reduceIte, Nat.reduceGT, Nat.reduceAdd, Int.reduceEq, Int.reduceLT, Int.reduceLE, Int.reduceNeg, Int.reduceAdd, Int.reduceSub, Int.reduceMul, Int.reduceDiv, Int.reduceMod, Nat.reduceLT, Nat.reduceLeDiff, Nat.reduceMul, Nat.reduceSub, Int.reduceToNat, go_sem, Nat.le_refl, cellsV, cellsN, Try.results5, decide_true, decide_eq_true_eq, beq_self_eq_true]
  · have d1 := real_ok (.mk v.kind v.b v.n x.s v.items v.keys) (by rw [szV_eq]; simp only [V.s_mk, V.keys_mk, V.items_mk, szT_app, szVs_app, szVs_cons, szVs_nil, szT, szone]; omega)
    have d2 := good_ok (.mk v.kind v.b v.n x.s v.items v.keys) (by rw [szV_eq]; simp only [V.s_mk, V.keys_mk, V.items_mk, szT_app, szVs_app, szVs_cons, szVs_nil, szT, szone]; omega)
    have d3 := rgood_ok (.mk v.kind v.b v.n x.s v.items v.keys) (by rw [szV_eq]; simp only [V.s_mk, V.keys_mk, V.items_mk, szT_app, szVs_app, szVs_cons, szVs_nil, szT, szone]; omega)
    generalize goodB (.mk v.kind v.b v.n x.s v.items v.keys) = gg at *
    simp only [cellsV, V.kind_mk, V.b_mk, V.n_mk, V.s_mk, V.items_mk, V.keys_mk, encV_snoc', encT_snoc', encV_nil, encT_nil] at d1 d2 d3
    simp (implicitDefEqProofs := false) (disch := omega) only [go_sem, reduceCtorEq, Nat.reduceEqDiff, Nat.reduceBEq, ↓reduceIte, Nat.reduceGT, Nat.reduceAdd, Int.reduceEq, Int.reduceLT, Int.reduceLE, Int.reduceNeg, Int.reduceAdd, Int.reduceSub, Int.reduceMul, Int.reduceDiv, Int.reduceMod, Nat.reduceLT, Nat.reduceLeDiff, Nat.reduceMul, Nat.reduceSub, Int.reduceToNat, go_sem, Nat.le_refl, cellsV, cellsN, Try.results5]
    with_reducible refine CallOk.of d1 rfl ?_
    simp (implicitDefEqProofs := false) (disch := omega) only [go_sem, reduceCtorEq, Nat.reduceEqDiff, Nat.reduceBEq, ↓reduceIte, Nat.reduceGT, Nat.reduceAdd, Int.reduceEq, Int.reduceLT, Int.reduceLE, Int.reduceNeg, Int.reduceAdd, Int.reduceSub, Int.reduceMul, Int.reduceDiv, Int.reduceMod, Nat.reduceLT, Nat.reduceLeDiff, Nat.reduceMul, Nat.reduceSub, Int.reduceToNat, go_sem, Nat.le_refl, cellsV, cellsN, Try.results5, decide_true, decide_eq_true_eq, beq_self_eq_true]
    with_reducible refine CallOk.of d2 rfl ?_
    simp (implicitDefEqProofs := false) (disch := omega) only [go_sem, reduceCtorEq, Nat.reduceEqDiff, Nat.reduceBEq, ↓reduceIte, Nat.reduceGT, Nat.reduceAdd, Int.reduceEq, Int.reduceLT, Int.reduceLE, Int.reduceNeg, Int.reduceAdd, Int.reduceSub, Int.reduceMul, Int.reduceDiv, Int.reduceMod, Nat.reduceLT, Nat.reduceLeDiff, Nat.reduceMul, Nat.reduceSub, Int.reduceToNat, go_sem, Nat.le_refl, cellsV, cellsN, Try.results5, decide_true, decide_eq_true_eq, beq_self_eq_true]
    with_reducible refine CallOk.of d3 rfl ?_
    simp (implicitDefEqProofs := false) (disch := omega) only [go_sem, reduceCtorEq, Nat.reduceEqDiff, Nat.reduceBEq, ↓reduceIte, Nat.reduceGT, Nat.reduceAdd, Int.reduceEq, Int.reduceLT, Int.reduceLE, Int.reduceNeg, Int.reduceAdd, Int.reduceSub, Int.reduceMul, Int.reduceDiv, Int.reduceMod, Nat.reduceLT, Nat.reduceLeDiff, Nat.reduceMul, Nat.reduceSub, Int.reduceToNat, go_sem, Nat.le_refl, cellsV, cellsN, Try.results5, decide_true, decide_eq_true_eq, beq_self_eq_true]
  · have hk9 : 0 ≤ x.kind.tmod 8 ∧ x.kind.tmod 8 ≤ 7 := by rw [Int.tmod_eq_emod_of_nonneg hxk.1]; omega
    obtain ⟨kq, hkq⟩ : ∃ k, x.kind.tmod 8 = k := ⟨_, rfl⟩
    rw [hkq] at hk9
    have d1 := real_ok (.mk v.kind v.b v.n v.s (v.items ++ [.mk kq false 0 ByteArray.empty [] []]) v.keys) (by rw [szV_eq]; simp only [V.s_mk, V.keys_mk, V.items_mk, szT_app, szVs_app, szVs_cons, szVs_nil, szT, szone]; omega)
    have d2 := good_ok (.mk v.kind v.b v.n v.s (v.items ++ [.mk kq false 0 ByteArray.empty [] []]) v.keys) (by rw [szV_eq]; simp only [V.s_mk, V.keys_mk, V.items_mk, szT_app, szVs_app, szVs_cons, szVs_nil, szT, szone]; omega)
    have d3 := rgood_ok (.mk v.kind v.b v.n v.s (v.items ++ [.mk kq false 0 ByteArray.empty [] []]) v.keys) (by rw [szV_eq]; simp only [V.s_mk, V.keys_mk, V.items_mk, szT_app, szVs_app, szVs_cons, szVs_nil, szT, szone]; omega)
    generalize goodB (.mk v.kind v.b v.n v.s (v.items ++ [.mk kq false 0 ByteArray.empty [] []]) v.keys) = gg at *
    simp only [cellsV, V.kind_mk, V.b_mk, V.n_mk, V.s_mk, V.items_mk, V.keys_mk, encV_snoc', encT_snoc', encV_nil, encT_nil] at d1 d2 d3
    simp (implicitDefEqProofs := false) (disch := omega) only [go_sem, reduceCtorEq, Nat.reduceEqDiff, Nat.reduceBEq, ↓reduceIte, Nat.reduceGT, Nat.reduceAdd, Int.reduceEq, Int.reduceLT, Int.reduceLE, Int.reduceNeg, Int.reduceAdd, Int.reduceSub, Int.reduceMul, Int.reduceDiv, Int.reduceMod, Nat.reduceLT, Nat.reduceLeDiff, Nat.reduceMul, Nat.reduceSub, Int.reduceToNat, go_sem, Nat.le_refl, cellsV, cellsN, Try.results5]
    refine appZ_any rfl rfl (by rw [encV_len, List.length_nil]; omega) (by rw [encV_len, List.length_nil]; omega) ?_
    simp (implicitDefEqProofs := false) (disch := omega) only [go_sem, reduceCtorEq, Nat.reduceEqDiff, Nat.reduceBEq, ↓reduceIte, Nat.reduceGT, Nat.reduceAdd, Int.reduceEq, Int.reduceLT, Int.reduceLE, Int.reduceNeg, Int.reduceAdd, Int.reduceSub, Int.reduceMul, Int.reduceDiv, Int.reduceMod, Nat.reduceLT, Nat.reduceLeDiff, Nat.reduceMul, Nat.reduceSub, Int.reduceToNat, go_sem, Nat.le_refl, cellsV, cellsN, hkq, Try.results5]
    with_reducible refine CallOk.of d1 rfl ?_
    simp (implicitDefEqProofs := false) (disch := omega) only [go_sem, reduceCtorEq, Nat.reduceEqDiff, Nat.reduceBEq, ↓reduceIte, Nat.reduceGT, Nat.reduceAdd, Int.reduceEq, Int.reduceLT, Int.reduceLE, Int.reduceNeg, Int.reduceAdd, Int.reduceSub, Int.reduceMul, Int.reduceDiv, Int.reduceMod, Nat.reduceLT, Nat.reduceLeDiff, Nat.reduceMul, Nat.reduceSub, Int.reduceToNat, go_sem, Nat.le_refl, cellsV, cellsN, Try.results5, decide_true, decide_eq_true_eq, beq_self_eq_true]
    with_reducible refine CallOk.of d2 rfl ?_
    simp (implicitDefEqProofs := false) (disch := omega) only [go_sem, reduceCtorEq, Nat.reduceEqDiff, Nat.reduceBEq, ↓reduceIte, Nat.reduceGT, Nat.reduceAdd, Int.reduceEq, Int.reduceLT, Int.reduceLE, Int.reduceNeg, Int.reduceAdd, Int.reduceSub, Int.reduceMul, Int.reduceDiv, Int.reduceMod, Nat.reduceLT, Nat.reduceLeDiff, Nat.reduceMul, Nat.reduceSub, Int.reduceToNat, go_sem, Nat.le_refl, cellsV, cellsN, Try.results5, decide_true, decide_eq_true_eq, beq_self_eq_true]
    with_reducible refine CallOk.of d3 rfl ?_
    simp (implicitDefEqProofs := false) (disch := omega) only [go_sem, reduceCtorEq, Nat.reduceEqDiff, Nat.reduceBEq, ↓reduceIte, Nat.reduceGT, Nat.reduceAdd, Int.reduceEq, Int.reduceLT, Int.reduceLE, Int.reduceNeg, Int.reduceAdd, Int.reduceSub, Int.reduceMul, Int.reduceDiv, Int.reduceMod, Nat.reduceLT, Nat.reduceLeDiff, Nat.reduceMul, Nat.reduceSub, Int.reduceToNat, go_sem, Nat.le_refl, cellsV, cellsN, Try.results5, decide_true, decide_eq_true_eq, beq_self_eq_true]
  · have d1 := real_ok (.mk v.kind v.b v.n v.s v.items (v.keys ++ [x.s])) (by rw [szV_eq]; simp only [V.s_mk, V.keys_mk, V.items_mk, szT_app, szVs_app, szVs_cons, szVs_nil, szT, szone]; omega)
    have d2 := good_ok (.mk v.kind v.b v.n v.s v.items (v.keys ++ [x.s])) (by rw [szV_eq]; simp only [V.s_mk, V.keys_mk, V.items_mk, szT_app, szVs_app, szVs_cons, szVs_nil, szT, szone]; omega)
    have d3 := rgood_ok (.mk v.kind v.b v.n v.s v.items (v.keys ++ [x.s])) (by rw [szV_eq]; simp only [V.s_mk, V.keys_mk, V.items_mk, szT_app, szVs_app, szVs_cons, szVs_nil, szT, szone]; omega)
    generalize goodB (.mk v.kind v.b v.n v.s v.items (v.keys ++ [x.s])) = gg at *
    simp only [cellsV, V.kind_mk, V.b_mk, V.n_mk, V.s_mk, V.items_mk, V.keys_mk, encV_snoc', encT_snoc', encV_nil, encT_nil] at d1 d2 d3
    simp (implicitDefEqProofs := false) (disch := omega) only [go_sem, reduceCtorEq, Nat.reduceEqDiff, Nat.reduceBEq, ↓reduceIte, Nat.reduceGT, Nat.reduceAdd, Int.reduceEq, Int.reduceLT, Int.reduceLE, Int.reduceNeg, Int.reduceAdd, Int.reduceSub, Int.reduceMul, Int.reduceDiv, Int.reduceMod, Nat.reduceLT, Nat.reduceLeDiff, Nat.reduceMul, Nat.reduceSub, Int.reduceToNat, go_sem, Nat.le_refl, cellsV, cellsN, Try.results5]
    refine appZ_any rfl rfl (by rw [encT_len, List.length_nil]; omega) (by rw [encT_len, List.length_nil]; omega) ?_
    simp (implicitDefEqProofs := false) (disch := omega) only [go_sem, reduceCtorEq, Nat.reduceEqDiff, Nat.reduceBEq, ↓reduceIte, Nat.reduceGT, Nat.reduceAdd, Int.reduceEq, Int.reduceLT, Int.reduceLE, Int.reduceNeg, Int.reduceAdd, Int.reduceSub, Int.reduceMul, Int.reduceDiv, Int.reduceMod, Nat.reduceLT, Nat.reduceLeDiff, Nat.reduceMul, Nat.reduceSub, Int.reduceToNat, go_sem, Nat.le_refl, cellsV, cellsN, Try.results5, decide_true, decide_eq_true_eq, beq_self_eq_true]
    with_reducible refine CallOk.of d1 rfl ?_
    simp (implicitDefEqProofs := false) (disch := omega) only [go_sem, reduceCtorEq, Nat.reduceEqDiff, Nat.reduceBEq, ↓reduceIte, Nat.reduceGT, Nat.reduceAdd, Int.reduceEq, Int.reduceLT, Int.reduceLE, Int.reduceNeg, Int.reduceAdd, Int.reduceSub, Int.reduceMul, Int.reduceDiv, Int.reduceMod, Nat.reduceLT, Nat.reduceLeDiff, Nat.reduceMul, Nat.reduceSub, Int.reduceToNat, go_sem, Nat.le_refl, cellsV, cellsN, Try.results5, decide_true, decide_eq_true_eq, beq_self_eq_true]
    with_reducible refine CallOk.of d2 rfl ?_
    simp (implicitDefEqProofs := false) (disch := omega) only [go_sem, reduceCtorEq, Nat.reduceEqDiff, Nat.reduceBEq, ↓reduceIte, Nat.reduceGT, Nat.reduceAdd, Int.reduceEq, Int.reduceLT, Int.reduceLE, Int.reduceNeg, Int.reduceAdd, Int.reduceSub, Int.reduceMul, Int.reduceDiv, Int.reduceMod, Nat.reduceLT, Nat.reduceLeDiff, Nat.reduceMul, Nat.reduceSub, Int.reduceToNat, go_sem, Nat.le_refl, cellsV, cellsN, Try.results5, decide_true, decide_eq_true_eq, beq_self_eq_true]
    with_reducible refine CallOk.of d3 rfl ?_
    simp (implicitDefEqProofs := false) (disch := omega) only [go_sem, reduceCtorEq, Nat.reduceEqDiff, Nat.reduceBEq, ↓reduceIte, Nat.reduceGT, Nat.reduceAdd, Int.reduceEq, Int.reduceLT, Int.reduceLE, Int.reduceNeg, Int.reduceAdd, Int.reduceSub, Int.reduceMul, Int.reduceDiv, Int.reduceMod, Nat.reduceLT, Nat.reduceLeDiff, Nat.reduceMul, Nat.reduceSub, Int.reduceToNat, go_sem, Nat.le_refl, cellsV, cellsN, Try.results5, decide_true, decide_eq_true_eq, beq_self_eq_true]
end Go.Proofs.Ytefhongghmimgaa
