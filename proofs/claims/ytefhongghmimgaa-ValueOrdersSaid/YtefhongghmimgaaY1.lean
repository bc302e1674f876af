/-
  cmp.Compare, and the order of values (the program's).
-/
import Derived.Test.YtefhongghmimgaaY0
import Derived.Test.YtefhongghmimgaaKO
open Go Go.Proofs Go.Pw Go.RowKit
namespace Go.Proofs.Ytefhongghmimgaa
set_option maxRecDepth 4000
set_option linter.unusedVariables false
set_option linter.unusedSimpArgs false
theorem nanI_ok (n : Int) : Ok Try.prog 64 [vI n] (vB false) := by
  refine Ok.of_pwp (by kernel_rfl) Try.func64 rfl (by kernel_rfl) (by kernel_rfl) ?_
  simp (implicitDefEqProofs := false) (disch := omega) only [go_sem, reduceCtorEq, Nat.reduceEqDiff, Nat.reduceBEq, ↓reduceIte, Nat.reduceGT, Nat.reduceAdd, Int.reduceEq, Int.reduceLT, Int.reduceLE, Int.reduceNeg, Int.reduceAdd, Int.reduceSub, Int.reduceMul, Int.reduceDiv, Int.reduceMod, Nat.reduceLT, Nat.reduceLeDiff, Nat.reduceMul, Nat.reduceSub, Int.reduceToNat, go_sem, Nat.le_refl, cellsV, Try.results64]
theorem nanJ_ok (n : Int) : Ok Try.prog 65 [vI n] (vB false) := by
  refine Ok.of_pwp (by kernel_rfl) Try.func65 rfl (by kernel_rfl) (by kernel_rfl) ?_
  simp (implicitDefEqProofs := false) (disch := omega) only [go_sem, reduceCtorEq, Nat.reduceEqDiff, Nat.reduceBEq, ↓reduceIte, Nat.reduceGT, Nat.reduceAdd, Int.reduceEq, Int.reduceLT, Int.reduceLE, Int.reduceNeg, Int.reduceAdd, Int.reduceSub, Int.reduceMul, Int.reduceDiv, Int.reduceMod, Nat.reduceLT, Nat.reduceLeDiff, Nat.reduceMul, Nat.reduceSub, Int.reduceToNat, go_sem, Nat.le_refl, cellsV, Try.results65]
theorem cmpI_ok (a b : Int) : Ok Try.prog 50 [vI a, vI b] (vI (cmpI a b)) := by
  refine Ok.of_pwp (by kernel_rfl) Try.func50 rfl (by kernel_rfl) (by kernel_rfl) ?_
  unfold cmpI
  simp (implicitDefEqProofs := false) (disch := omega) only [go_sem, reduceCtorEq, Nat.reduceEqDiff, Nat.reduceBEq, ↓reduceIte, Nat.reduceGT, Nat.reduceAdd, Int.reduceEq, Int.reduceLT, Int.reduceLE, Int.reduceNeg, Int.reduceAdd, Int.reduceSub, Int.reduceMul, Int.reduceDiv, Int.reduceMod, Nat.reduceLT, Nat.reduceLeDiff, Nat.reduceMul, Nat.reduceSub, Int.reduceToNat, go_sem, Nat.le_refl, cellsV, Try.results50]
  with_reducible refine CallOk.of (nanI_ok a) rfl ?_
  simp (implicitDefEqProofs := false) (disch := omega) only [go_sem, reduceCtorEq, Nat.reduceEqDiff, Nat.reduceBEq, ↓reduceIte, Nat.reduceGT, Nat.reduceAdd, Int.reduceEq, Int.reduceLT, Int.reduceLE, Int.reduceNeg, Int.reduceAdd, Int.reduceSub, Int.reduceMul, Int.reduceDiv, Int.reduceMod, Nat.reduceLT, Nat.reduceLeDiff, Nat.reduceMul, Nat.reduceSub, Int.reduceToNat, go_sem, Nat.le_refl, cellsV, Try.results50]
  with_reducible refine CallOk.of (nanI_ok b) rfl ?_
  simp (implicitDefEqProofs := false) (disch := omega) only [go_sem, reduceCtorEq, Nat.reduceEqDiff, Nat.reduceBEq, ↓reduceIte, Nat.reduceGT, Nat.reduceAdd, Int.reduceEq, Int.reduceLT, Int.reduceLE, Int.reduceNeg, Int.reduceAdd, Int.reduceSub, Int.reduceMul, Int.reduceDiv, Int.reduceMod, Nat.reduceLT, Nat.reduceLeDiff, Nat.reduceMul, Nat.reduceSub, Int.reduceToNat, go_sem, Nat.le_refl, cellsV, Try.results50]
  by_cases h0 : a < b
  · rw [if_pos h0]
    simp (implicitDefEqProofs := false) (disch := omega) only [go_sem, reduceCtorEq, Nat.reduceEqDiff, Nat.reduceBEq, ↓reduceIte, Nat.reduceGT, Nat.reduceAdd, Int.reduceEq, Int.reduceLT, Int.reduceLE, Int.reduceNeg, Int.reduceAdd, Int.reduceSub, Int.reduceMul, Int.reduceDiv, Int.reduceMod, Nat.reduceLT, Nat.reduceLeDiff, Nat.reduceMul, Nat.reduceSub, Int.reduceToNat, go_sem, Nat.le_refl, cellsV, Try.results50]
  · rw [if_neg h0]
    by_cases h1 : b < a
    · rw [if_pos h1]
      simp (implicitDefEqProofs := false) (disch := omega) only [go_sem, reduceCtorEq, Nat.reduceEqDiff, Nat.reduceBEq, ↓reduceIte, Nat.reduceGT, Nat.reduceAdd, Int.reduceEq, Int.reduceLT, Int.reduceLE, Int.reduceNeg, Int.reduceAdd, Int.reduceSub, Int.reduceMul, Int.reduceDiv, Int.reduceMod, Nat.reduceLT, Nat.reduceLeDiff, Nat.reduceMul, Nat.reduceSub, Int.reduceToNat, go_sem, Nat.le_refl, cellsV, Try.results50]
    · rw [if_neg h1]
      simp (implicitDefEqProofs := false) (disch := omega) only [go_sem, reduceCtorEq, Nat.reduceEqDiff, Nat.reduceBEq, ↓reduceIte, Nat.reduceGT, Nat.reduceAdd, Int.reduceEq, Int.reduceLT, Int.reduceLE, Int.reduceNeg, Int.reduceAdd, Int.reduceSub, Int.reduceMul, Int.reduceDiv, Int.reduceMod, Nat.reduceLT, Nat.reduceLeDiff, Nat.reduceMul, Nat.reduceSub, Int.reduceToNat, go_sem, Nat.le_refl, cellsV, Try.results50]
theorem cmpJ_ok (a b : Int) : Ok Try.prog 52 [vI a, vI b] (vI (cmpI a b)) := by
  refine Ok.of_pwp (by kernel_rfl) Try.func52 rfl (by kernel_rfl) (by kernel_rfl) ?_
  unfold cmpI
  simp (implicitDefEqProofs := false) (disch := omega) only [go_sem, reduceCtorEq, Nat.reduceEqDiff, Nat.reduceBEq, ↓reduceIte, Nat.reduceGT, Nat.reduceAdd, Int.reduceEq, Int.reduceLT, Int.reduceLE, Int.reduceNeg, Int.reduceAdd, Int.reduceSub, Int.reduceMul, Int.reduceDiv, Int.reduceMod, Nat.reduceLT, Nat.reduceLeDiff, Nat.reduceMul, Nat.reduceSub, Int.reduceToNat, go_sem, Nat.le_refl, cellsV, Try.results52]
  with_reducible refine CallOk.of (nanJ_ok a) rfl ?_
  simp (implicitDefEqProofs := false) (disch := omega) only [go_sem, reduceCtorEq, Nat.reduceEqDiff, Nat.reduceBEq, ↓reduceIte, Nat.reduceGT, Nat.reduceAdd, Int.reduceEq, Int.reduceLT, Int.reduceLE, Int.reduceNeg, Int.reduceAdd, Int.reduceSub, Int.reduceMul, Int.reduceDiv, Int.reduceMod, Nat.reduceLT, Nat.reduceLeDiff, Nat.reduceMul, Nat.reduceSub, Int.reduceToNat, go_sem, Nat.le_refl, cellsV, Try.results52]
  with_reducible refine CallOk.of (nanJ_ok b) rfl ?_
  simp (implicitDefEqProofs := false) (disch := omega) only [go_sem, reduceCtorEq, Nat.reduceEqDiff, Nat.reduceBEq, ↓reduceIte, Nat.reduceGT, Nat.reduceAdd, Int.reduceEq, Int.reduceLT, Int.reduceLE, Int.reduceNeg, Int.reduceAdd, Int.reduceSub, Int.reduceMul, Int.reduceDiv, Int.reduceMod, Nat.reduceLT, Nat.reduceLeDiff, Nat.reduceMul, Nat.reduceSub, Int.reduceToNat, go_sem, Nat.le_refl, cellsV, Try.results52]
  by_cases h0 : a < b
  · rw [if_pos h0]
    simp (implicitDefEqProofs := false) (disch := omega) only [go_sem, reduceCtorEq, Nat.reduceEqDiff, Nat.reduceBEq, ↓reduceIte, Nat.reduceGT, Nat.reduceAdd, Int.reduceEq, Int.reduceLT, Int.reduceLE, Int.reduceNeg, Int.reduceAdd, Int.reduceSub, Int.reduceMul, Int.reduceDiv, Int.reduceMod, Nat.reduceLT, Nat.reduceLeDiff, Nat.reduceMul, Nat.reduceSub, Int.reduceToNat, go_sem, Nat.le_refl, cellsV, Try.results52]
  · rw [if_neg h0]
    by_cases h1 : b < a
    · rw [if_pos h1]
      simp (implicitDefEqProofs := false) (disch := omega) only [go_sem, reduceCtorEq, Nat.reduceEqDiff, Nat.reduceBEq, ↓reduceIte, Nat.reduceGT, Nat.reduceAdd, Int.reduceEq, Int.reduceLT, Int.reduceLE, Int.reduceNeg, Int.reduceAdd, Int.reduceSub, Int.reduceMul, Int.reduceDiv, Int.reduceMod, Nat.reduceLT, Nat.reduceLeDiff, Nat.reduceMul, Nat.reduceSub, Int.reduceToNat, go_sem, Nat.le_refl, cellsV, Try.results52]
    · rw [if_neg h1]
      simp (implicitDefEqProofs := false) (disch := omega) only [go_sem, reduceCtorEq, Nat.reduceEqDiff, Nat.reduceBEq, ↓reduceIte, Nat.reduceGT, Nat.reduceAdd, Int.reduceEq, Int.reduceLT, Int.reduceLE, Int.reduceNeg, Int.reduceAdd, Int.reduceSub, Int.reduceMul, Int.reduceDiv, Int.reduceMod, Nat.reduceLT, Nat.reduceLeDiff, Nat.reduceMul, Nat.reduceSub, Int.reduceToNat, go_sem, Nat.le_refl, cellsV, Try.results52]
theorem cmpT_ok (a b : ByteArray) : Ok Try.prog 53 [vS a, vS b] (vI (cmpT a b)) := by
  refine Ok.of_pwp (by kernel_rfl) Try.func53 rfl (by kernel_rfl) (by kernel_rfl) ?_
  simp (implicitDefEqProofs := false) (disch := omega) only [go_sem, reduceCtorEq, Nat.reduceEqDiff, Nat.reduceBEq, ↓reduceIte, Nat.reduceGT, Nat.reduceAdd, Int.reduceEq, Int.reduceLT, Int.reduceLE, Int.reduceNeg, Int.reduceAdd, Int.reduceSub, Int.reduceMul, Int.reduceDiv, Int.reduceMod, Nat.reduceLT, Nat.reduceLeDiff, Nat.reduceMul, Nat.reduceSub, Int.reduceToNat, go_sem, Nat.le_refl, cellsV, Try.results53]
  with_reducible refine CallOk.of (isNaNc_ok a) rfl ?_
  simp (implicitDefEqProofs := false) (disch := omega) only [go_sem, reduceCtorEq, Nat.reduceEqDiff, Nat.reduceBEq, ↓reduceIte, Nat.reduceGT, Nat.reduceAdd, Int.reduceEq, Int.reduceLT, Int.reduceLE, Int.reduceNeg, Int.reduceAdd, Int.reduceSub, Int.reduceMul, Int.reduceDiv, Int.reduceMod, Nat.reduceLT, Nat.reduceLeDiff, Nat.reduceMul, Nat.reduceSub, Int.reduceToNat, go_sem, Nat.le_refl, cellsV, Try.results53]
  with_reducible refine CallOk.of (isNaNc_ok b) rfl ?_
  simp (implicitDefEqProofs := false) (disch := omega) only [go_sem, reduceCtorEq, Nat.reduceEqDiff, Nat.reduceBEq, ↓reduceIte, Nat.reduceGT, Nat.reduceAdd, Int.reduceEq, Int.reduceLT, Int.reduceLE, Int.reduceNeg, Int.reduceAdd, Int.reduceSub, Int.reduceMul, Int.reduceDiv, Int.reduceMod, Nat.reduceLT, Nat.reduceLeDiff, Nat.reduceMul, Nat.reduceSub, Int.reduceToNat, go_sem, Nat.le_refl, cellsV, Try.results53]
  rcases ltT_tri a b with h | h | h
  · rw [cmpT_lt h]
    unfold ltT at h
    simp (implicitDefEqProofs := false) (disch := omega) only [go_sem, reduceCtorEq, Nat.reduceEqDiff, Nat.reduceBEq, ↓reduceIte, Nat.reduceGT, Nat.reduceAdd, Int.reduceEq, Int.reduceLT, Int.reduceLE, Int.reduceNeg, Int.reduceAdd, Int.reduceSub, Int.reduceMul, Int.reduceDiv, Int.reduceMod, Nat.reduceLT, Nat.reduceLeDiff, Nat.reduceMul, Nat.reduceSub, Int.reduceToNat, go_sem, Nat.le_refl, cellsV, h, Try.results53]
  · subst h
    rw [cmpT_self]
    have h1 : Op.bytesLess a.data.toList a.data.toList = false := ltT_irr a
    simp (implicitDefEqProofs := false) (disch := omega) only [go_sem, reduceCtorEq, Nat.reduceEqDiff, Nat.reduceBEq, ↓reduceIte, Nat.reduceGT, Nat.reduceAdd, Int.reduceEq, Int.reduceLT, Int.reduceLE, Int.reduceNeg, Int.reduceAdd, Int.reduceSub, Int.reduceMul, Int.reduceDiv, Int.reduceMod, Nat.reduceLT, Nat.reduceLeDiff, Nat.reduceMul, Nat.reduceSub, Int.reduceToNat, go_sem, Nat.le_refl, cellsV, h1, decide_true, Bool.or_true, Bool.not_true, Try.results53]
  · rw [cmpT_gt h]
    have h2 := ltT_asymm h
    have hne : decide (a = b) = false := decide_eq_false (fun e => by rw [e, ltT_irr] at h; cases h)
    unfold ltT at h h2
    simp (implicitDefEqProofs := false) (disch := omega) only [go_sem, reduceCtorEq, Nat.reduceEqDiff, Nat.reduceBEq, ↓reduceIte, Nat.reduceGT, Nat.reduceAdd, Int.reduceEq, Int.reduceLT, Int.reduceLE, Int.reduceNeg, Int.reduceAdd, Int.reduceSub, Int.reduceMul, Int.reduceDiv, Int.reduceMod, Nat.reduceLT, Nat.reduceLeDiff, Nat.reduceMul, Nat.reduceSub, Int.reduceToNat, go_sem, Nat.le_refl, cellsV, h, h2, hne, Bool.or_false, Bool.not_false, Try.results53]
theorem number_ok (b : Bool) : Ok Try.prog 51 [vB b] (vI (numB b)) := by
  refine Ok.of_pwp (by kernel_rfl) Try.func51 rfl (by kernel_rfl) (by kernel_rfl) ?_
  cases b with
  | true =>
    simp (implicitDefEqProofs := false) (disch := omega) only [go_sem, reduceCtorEq, Nat.reduceEqDiff, Nat.reduceBEq, ↓reduceIte, Nat.reduceGT, Nat.reduceAdd, Int.reduceEq, Int.reduceLT, Int.reduceLE, Int.reduceNeg, Int.reduceAdd, Int.reduceSub, Int.reduceMul, Int.reduceDiv, Int.reduceMod, Nat.reduceLT, Nat.reduceLeDiff, Nat.reduceMul, Nat.reduceSub, Int.reduceToNat, go_sem, Nat.le_refl, cellsV, Try.results51]
    rfl
  | false =>
    simp (implicitDefEqProofs := false) (disch := omega) only [go_sem, reduceCtorEq, Nat.reduceEqDiff, Nat.reduceBEq, ↓reduceIte, Nat.reduceGT, Nat.reduceAdd, Int.reduceEq, Int.reduceLT, Int.reduceLE, Int.reduceNeg, Int.reduceAdd, Int.reduceSub, Int.reduceMul, Int.reduceDiv, Int.reduceMod, Nat.reduceLT, Nat.reduceLeDiff, Nat.reduceMul, Nat.reduceSub, Int.reduceToNat, go_sem, Nat.le_refl, cellsV, Try.results51]
    rfl
def headC (a b : V) : Int := lexI (cmpI a.kind b.kind) (lexI (cmpI (numB a.b) (numB b.b)) (lexI (cmpI a.n b.n) (cmpT a.s b.s)))
theorem lex_assoc (a b c : Int) : lexI (lexI a b) c = lexI a (lexI b c) := by
  unfold lexI
  by_cases h : a = 0
  · rw [if_pos h, if_pos h]
  · rw [if_neg h, if_neg h, if_neg h]
theorem cmpV_head (a b : V) : cmpV a b = lexI (headC a b) (cmpL a.kind a.items a.keys b.items b.keys) := by
  rw [cmpV_eq, headC, lex_assoc, lex_assoc, lex_assoc]
theorem or_head (a b c d : Int) : orF [a, b, c, d] = lexI a (lexI b (lexI c d)) := by
  by_cases h1 : a = 0 <;> by_cases h2 : b = 0 <;> by_cases h3 : c = 0 <;> by_cases h4 : d = 0 <;> simp [orF, lexI, h1, h2, h3, h4]
theorem head_zero {a b : V} (h : headC a b = 0) : a.kind = b.kind := by
  unfold headC at h
  exact cmpI_zero (lex_zero h).1
theorem cmpL_end {k : Int} {is js : List V} {ks ms : List ByteArray} {i : Nat} (h : i = min is.length js.length) : cmpL k (is.drop i) (ks.drop i) (js.drop i) (ms.drop i) = cmpI is.length js.length := by
  rcases Nat.lt_trichotomy is.length js.length with h1 | h1 | h1
  · rw [show List.drop i is = [] from List.drop_eq_nil_of_le (by omega), drop_consG (a := js) (d := default) (by omega), cmpL_nc]
    unfold cmpI; rw [if_pos (by omega)]
  · rw [show List.drop i is = [] from List.drop_eq_nil_of_le (by omega), show List.drop i js = [] from List.drop_eq_nil_of_le (by omega), cmpL_nn]
    unfold cmpI; rw [if_neg (by omega), if_neg (by omega)]
  · rw [show List.drop i js = [] from List.drop_eq_nil_of_le (by omega), drop_consG (a := is) (d := default) (by omega), cmpL_cn]
    unfold cmpI; rw [if_neg (by omega), if_pos (by omega)]
theorem headD_drop {l : List ByteArray} (i : Nat) : (l.drop i).headD ByteArray.empty = l.getD i ByteArray.empty := by
  rw [List.headD_eq_head?_getD, List.head?_drop, List.getD_eq_getElem?_getD]
theorem cmpL_step {k : Int} {is js : List V} {ks ms : List ByteArray} {i : Nat} (h1 : i < is.length) (h2 : i < js.length) :
    cmpL k (is.drop i) (ks.drop i) (js.drop i) (ms.drop i) = lexI (if k = 5 then cmpT (ks.getD i ByteArray.empty) (ms.getD i ByteArray.empty) else 0) (lexI (cmpV (is.getD i default) (js.getD i default)) (cmpL k (is.drop (i + 1)) (ks.drop (i + 1)) (js.drop (i + 1)) (ms.drop (i + 1)))) := by
  rw [drop_consG (a := is) (d := default) h1, drop_consG (a := js) (d := default) h2, cmpL_cc, headD_drop, headD_drop, List.tail_drop, List.tail_drop]
set_option maxHeartbeats 16000000 in
theorem order_ok : ∀ a, szV a ≤ 1000000 → goodB a = true → ∀ b, szV b ≤ 1000000 → goodB b = true → Ok Try.prog 33 [.agg (cellsV a), .agg (cellsV b)] (vI (cmpV a b)) := by
  refine V.ind fun a ih ha hga b hb hgb => ?_
  obtain ⟨hl, hl2, hx, _⟩ := V.small ha
  obtain ⟨hl', hl2', hx', _⟩ := V.small hb
  obtain ⟨ga1, ga2, ga3⟩ := good_parts hga
  obtain ⟨gb1, gb2, gb3⟩ := good_parts hgb
  have hit : ∀ i, i < a.items.length → i < b.items.length → Ok Try.prog 33 [.agg (cellsV (a.items.getD i default)), .agg (cellsV (b.items.getD i default))] (vI (cmpV (a.items.getD i default) (b.items.getD i default))) :=
    fun i hi hj => ih _ (getD_mem hi) (hx _ (getD_mem hi)) (ga3 _ (getD_mem hi)) _ (hx' _ (getD_mem hj)) (gb3 _ (getD_mem hj))
  have o := or_ok [cmpI a.kind b.kind, cmpI (numB a.b) (numB b.b), cmpI a.n b.n, cmpT a.s b.s] (by simp)
  rw [or_head] at o
  have eh : lexI (cmpI a.kind b.kind) (lexI (cmpI (numB a.b) (numB b.b)) (lexI (cmpI a.n b.n) (cmpT a.s b.s))) = headC a b := rfl
  rw [eh] at o
  simp only [encI, List.map_cons, List.map_nil] at o
  have hr0 := cmpV_head a b
  refine Ok.of_pwp (by kernel_rfl) Try.func33 rfl (by kernel_rfl) (by kernel_rfl) ?_
  obtain ⟨rr, hr⟩ : ∃ rr, cmpV a b = rr := ⟨_, rfl⟩
  rw [hr]
  rw [hr] at hr0
  simp (implicitDefEqProofs := false) (disch := omega) only [go_sem, reduceCtorEq, Nat.reduceEqDiff, Nat.reduceBEq, ↓reduceIte, Nat.reduceGT, Nat.reduceAdd, Int.reduceEq, Int.reduceLT, Int.reduceLE, Int.reduceNeg, Int.reduceAdd, Int.reduceSub, Int.reduceMul, Int.reduceDiv, Int.reduceMod, Nat.reduceLT, Nat.reduceLeDiff, Nat.reduceMul, Nat.reduceSub, Int.reduceToNat, go_sem, Nat.le_refl, cellsV, Try.results33]
  with_reducible refine CallOk.of (cmpI_ok a.kind b.kind) rfl ?_
  simp (implicitDefEqProofs := false) (disch := omega) only [go_sem, reduceCtorEq, Nat.reduceEqDiff, Nat.reduceBEq, ↓reduceIte, Nat.reduceGT, Nat.reduceAdd, Int.reduceEq, Int.reduceLT, Int.reduceLE, Int.reduceNeg, Int.reduceAdd, Int.reduceSub, Int.reduceMul, Int.reduceDiv, Int.reduceMod, Nat.reduceLT, Nat.reduceLeDiff, Nat.reduceMul, Nat.reduceSub, Int.reduceToNat, go_sem, Nat.le_refl, cellsV, Try.results33]
  with_reducible refine CallOk.of (number_ok a.b) rfl ?_
  simp (implicitDefEqProofs := false) (disch := omega) only [go_sem, reduceCtorEq, Nat.reduceEqDiff, Nat.reduceBEq, ↓reduceIte, Nat.reduceGT, Nat.reduceAdd, Int.reduceEq, Int.reduceLT, Int.reduceLE, Int.reduceNeg, Int.reduceAdd, Int.reduceSub, Int.reduceMul, Int.reduceDiv, Int.reduceMod, Nat.reduceLT, Nat.reduceLeDiff, Nat.reduceMul, Nat.reduceSub, Int.reduceToNat, go_sem, Nat.le_refl, cellsV, Try.results33]
  with_reducible refine CallOk.of (number_ok b.b) rfl ?_
  simp (implicitDefEqProofs := false) (disch := omega) only [go_sem, reduceCtorEq, Nat.reduceEqDiff, Nat.reduceBEq, ↓reduceIte, Nat.reduceGT, Nat.reduceAdd, Int.reduceEq, Int.reduceLT, Int.reduceLE, Int.reduceNeg, Int.reduceAdd, Int.reduceSub, Int.reduceMul, Int.reduceDiv, Int.reduceMod, Nat.reduceLT, Nat.reduceLeDiff, Nat.reduceMul, Nat.reduceSub, Int.reduceToNat, go_sem, Nat.le_refl, cellsV, Try.results33]
  with_reducible refine CallOk.of (cmpI_ok (numB a.b) (numB b.b)) rfl ?_
  simp (implicitDefEqProofs := false) (disch := omega) only [go_sem, reduceCtorEq, Nat.reduceEqDiff, Nat.reduceBEq, ↓reduceIte, Nat.reduceGT, Nat.reduceAdd, Int.reduceEq, Int.reduceLT, Int.reduceLE, Int.reduceNeg, Int.reduceAdd, Int.reduceSub, Int.reduceMul, Int.reduceDiv, Int.reduceMod, Nat.reduceLT, Nat.reduceLeDiff, Nat.reduceMul, Nat.reduceSub, Int.reduceToNat, go_sem, Nat.le_refl, cellsV, Try.results33]
  with_reducible refine CallOk.of (cmpJ_ok a.n b.n) rfl ?_
  simp (implicitDefEqProofs := false) (disch := omega) only [go_sem, reduceCtorEq, Nat.reduceEqDiff, Nat.reduceBEq, ↓reduceIte, Nat.reduceGT, Nat.reduceAdd, Int.reduceEq, Int.reduceLT, Int.reduceLE, Int.reduceNeg, Int.reduceAdd, Int.reduceSub, Int.reduceMul, Int.reduceDiv, Int.reduceMod, Nat.reduceLT, Nat.reduceLeDiff, Nat.reduceMul, Nat.reduceSub, Int.reduceToNat, go_sem, Nat.le_refl, cellsV, Try.results33]
  with_reducible refine CallOk.of (cmpT_ok a.s b.s) rfl ?_
  simp (implicitDefEqProofs := false) (disch := omega) only [go_sem, reduceCtorEq, Nat.reduceEqDiff, Nat.reduceBEq, ↓reduceIte, Nat.reduceGT, Nat.reduceAdd, Int.reduceEq, Int.reduceLT, Int.reduceLE, Int.reduceNeg, Int.reduceAdd, Int.reduceSub, Int.reduceMul, Int.reduceDiv, Int.reduceMod, Nat.reduceLT, Nat.reduceLeDiff, Nat.reduceMul, Nat.reduceSub, Int.reduceToNat, go_sem, Nat.le_refl, cellsV, Try.results33]
  with_reducible refine CallOk.of o rfl ?_
  by_cases hh : headC a b = 0
  rotate_left
  · unfold lexI at hr0
    rw [if_neg hh] at hr0
    rw [hr0]
    generalize headC a b = hc at *
    simp (implicitDefEqProofs := false) (disch := omega) only [go_sem, reduceCtorEq, Nat.reduceEqDiff, Nat.reduceBEq, ↓reduceIte, Nat.reduceGT, Nat.reduceAdd, Int.reduceEq, Int.reduceLT, Int.reduceLE, Int.reduceNeg, Int.reduceAdd, Int.reduceSub, Int.reduceMul, Int.reduceDiv, Int.reduceMod, Nat.reduceLT, Nat.reduceLeDiff, Nat.reduceMul, Nat.reduceSub, Int.reduceToNat, go_sem, Nat.le_refl, cellsV, Try.results33]
  have hk := head_zero hh
  rw [hh] at hr0
  unfold lexI at hr0
  rw [if_pos rfl] at hr0
  obtain ⟨m, hm, hm2⟩ : ∃ m : Nat, (if (b.items.length : Int) < (a.items.length : Int) then (b.items.length : Int) else (a.items.length : Int)) = (m : Int) ∧ m = min a.items.length b.items.length := ⟨_, by split <;> omega, rfl⟩
  simp (implicitDefEqProofs := false) (disch := omega) only [go_sem, reduceCtorEq, Nat.reduceEqDiff, Nat.reduceBEq, ↓reduceIte, Nat.reduceGT, Nat.reduceAdd, Int.reduceEq, Int.reduceLT, Int.reduceLE, Int.reduceNeg, Int.reduceAdd, Int.reduceSub, Int.reduceMul, Int.reduceDiv, Int.reduceMod, Nat.reduceLT, Nat.reduceLeDiff, Nat.reduceMul, Nat.reduceSub, Int.reduceToNat, go_sem, Nat.le_refl, cellsV, hh, hm, Try.results33]
  refine p_loop (ι := { i : Nat // i ≤ m ∧ rr = cmpL a.kind (a.items.drop i) (a.keys.drop i) (b.items.drop i) (b.keys.drop i) })
    (fun p => ⟨[(42, vI p.1), (41, vI m), (3, .ptr 1 0), (2, .ptr 0 0)], [(1, .box 31 (cellsV b)), (0, .box 31 (cellsV a))], [], 2, 0⟩) (fun p => m - p.1) ⟨0, Nat.zero_le _, hr0⟩ ?_ ?_
  · refine ⟨?_, ?_, ?_, ?_, ?_, ?_, ?_⟩ <;> simp only [mem_cons_, mem_nil_, lkp, hold_eq, b_some, frz_self, frz1_self, frzL_self, frzO_self, frzO_box, frzO_iter, frzL_cons, frzL_nil, frz_agg, frz1_row, frz1_nil, frz1_val, frz1_sl, frz1_rr, frz1_ptr, frz1_ms, frz_val, frz_sl, frz_row, frz_ptr, frz_ms, frz_fp, frz_tup, frz_fn, PV.lt, PV.ltL, PObj.lt, decide_true, Bool.true_and, Bool.and_true, Bool.and_self, Nat.reduceLT, Nat.reduceLeDiff, Nat.reduceEqDiff, if_true, if_false, ↓reduceIte, and_true, true_and, Nat.zero_le, reduceCtorEq, eq_self, decide_eq_true_eq, Int.natCast_zero] <;> try first | omega | ((repeat' (first | exact And.intro rfl (by omega) | (refine And.intro ?_ ?_))) <;> first | rfl | omega | (congr 3; omega) | (congr 2; omega))
  · rintro ⟨i, g1, g2⟩
    simp only at g1 g2 ⊢
    by_cases hi : i < m
    · rw [cmpL_step (by omega) (by omega)] at g2
      have ho := hit i (by omega) (by omega)
      by_cases h5 : a.kind = 5
      · have la := ga1 h5
        have lb := gb1 (by omega)
        rw [if_pos h5] at g2
        by_cases he : a.keys.getD i ByteArray.empty = b.keys.getD i ByteArray.empty
        · rw [he, cmpT_self] at g2
          rw [show ∀ x, lexI 0 x = x from fun x => rfl] at g2
          simp (implicitDefEqProofs := false) (disch := omega) only [go_sem, reduceCtorEq, Nat.reduceEqDiff, Nat.reduceBEq, ↓reduceIte, Nat.reduceGT, Nat.reduceAdd, Int.reduceEq, Int.reduceLT, Int.reduceLE, Int.reduceNeg, Int.reduceAdd, Int.reduceSub, Int.reduceMul, Int.reduceDiv, Int.reduceMod, Nat.reduceLT, Nat.reduceLeDiff, Nat.reduceMul, Nat.reduceSub, Int.reduceToNat, go_sem, Nat.le_refl, cellsV, he, Try.results33]
          with_reducible refine CallOk.of ho rfl ?_
          by_cases hc : cmpV (a.items.getD i default) (b.items.getD i default) = 0
          · rw [hc, show ∀ x, lexI 0 x = x from fun x => rfl] at g2
            rw [hc]
            simp (implicitDefEqProofs := false) (disch := omega) only [go_sem, reduceCtorEq, Nat.reduceEqDiff, Nat.reduceBEq, ↓reduceIte, Nat.reduceGT, Nat.reduceAdd, Int.reduceEq, Int.reduceLT, Int.reduceLE, Int.reduceNeg, Int.reduceAdd, Int.reduceSub, Int.reduceMul, Int.reduceDiv, Int.reduceMod, Nat.reduceLT, Nat.reduceLeDiff, Nat.reduceMul, Nat.reduceSub, Int.reduceToNat, go_sem, Nat.le_refl, cellsV, Try.results33]
            refine ⟨⟨i + 1, hi, g2⟩, by simp only; omega, ?_⟩
            refine ⟨?_, ?_, ?_, ?_, ?_, ?_, ?_⟩ <;> simp only [mem_cons_, mem_nil_, lkp, hold_eq, b_some, frz_self, frz1_self, frzL_self, frzO_self, frzO_box, frzO_iter, frzL_cons, frzL_nil, frz_agg, frz1_row, frz1_nil, frz1_val, frz1_sl, frz1_rr, frz1_ptr, frz1_ms, frz_val, frz_sl, frz_row, frz_ptr, frz_ms, frz_fp, frz_tup, frz_fn, PV.lt, PV.ltL, PObj.lt, decide_true, Bool.true_and, Bool.and_true, Bool.and_self, Nat.reduceLT, Nat.reduceLeDiff, Nat.reduceEqDiff, if_true, if_false, ↓reduceIte, and_true, true_and, Nat.zero_le, reduceCtorEq, eq_self, decide_eq_true_eq, Int.natCast_add, Int.natCast_one] <;> try first | omega | ((repeat' (first | exact And.intro rfl (by omega) | (refine And.intro ?_ ?_))) <;> first | rfl | omega | (congr 3; omega) | (congr 2; omega))
          · unfold lexI at g2
            rw [if_neg hc] at g2
            rw [g2]
            generalize cmpV (a.items.getD i default) (b.items.getD i default) = cc at *
            simp (implicitDefEqProofs := false) (disch := omega) only [go_sem, reduceCtorEq, Nat.reduceEqDiff, Nat.reduceBEq, ↓reduceIte, Nat.reduceGT, Nat.reduceAdd, Int.reduceEq, Int.reduceLT, Int.reduceLE, Int.reduceNeg, Int.reduceAdd, Int.reduceSub, Int.reduceMul, Int.reduceDiv, Int.reduceMod, Nat.reduceLT, Nat.reduceLeDiff, Nat.reduceMul, Nat.reduceSub, Int.reduceToNat, go_sem, Nat.le_refl, cellsV, Try.results33]
        · have hct := cmpT_ok (a.keys.getD i ByteArray.empty) (b.keys.getD i ByteArray.empty)
          have hne : cmpT (a.keys.getD i ByteArray.empty) (b.keys.getD i ByteArray.empty) ≠ 0 := fun h => he (cmpT_zero h)
          unfold lexI at g2
          rw [if_neg hne] at g2
          rw [g2]
          simp (implicitDefEqProofs := false) (disch := omega) only [go_sem, reduceCtorEq, Nat.reduceEqDiff, Nat.reduceBEq, ↓reduceIte, Nat.reduceGT, Nat.reduceAdd, Int.reduceEq, Int.reduceLT, Int.reduceLE, Int.reduceNeg, Int.reduceAdd, Int.reduceSub, Int.reduceMul, Int.reduceDiv, Int.reduceMod, Nat.reduceLT, Nat.reduceLeDiff, Nat.reduceMul, Nat.reduceSub, Int.reduceToNat, go_sem, Nat.le_refl, cellsV, he, Try.results33]
          with_reducible refine CallOk.of hct rfl ?_
          simp (implicitDefEqProofs := false) (disch := omega) only [go_sem, reduceCtorEq, Nat.reduceEqDiff, Nat.reduceBEq, ↓reduceIte, Nat.reduceGT, Nat.reduceAdd, Int.reduceEq, Int.reduceLT, Int.reduceLE, Int.reduceNeg, Int.reduceAdd, Int.reduceSub, Int.reduceMul, Int.reduceDiv, Int.reduceMod, Nat.reduceLT, Nat.reduceLeDiff, Nat.reduceMul, Nat.reduceSub, Int.reduceToNat, go_sem, Nat.le_refl, cellsV, Try.results33]
      · rw [if_neg h5] at g2
        rw [show ∀ x, lexI 0 x = x from fun x => rfl] at g2
        simp (implicitDefEqProofs := false) (disch := omega) only [go_sem, reduceCtorEq, Nat.reduceEqDiff, Nat.reduceBEq, ↓reduceIte, Nat.reduceGT, Nat.reduceAdd, Int.reduceEq, Int.reduceLT, Int.reduceLE, Int.reduceNeg, Int.reduceAdd, Int.reduceSub, Int.reduceMul, Int.reduceDiv, Int.reduceMod, Nat.reduceLT, Nat.reduceLeDiff, Nat.reduceMul, Nat.reduceSub, Int.reduceToNat, go_sem, Nat.le_refl, cellsV, Try.results33]
        with_reducible refine CallOk.of ho rfl ?_
        by_cases hc : cmpV (a.items.getD i default) (b.items.getD i default) = 0
        · rw [hc, show ∀ x, lexI 0 x = x from fun x => rfl] at g2
          rw [hc]
          simp (implicitDefEqProofs := false) (disch := omega) only [go_sem, reduceCtorEq, Nat.reduceEqDiff, Nat.reduceBEq, ↓reduceIte, Nat.reduceGT, Nat.reduceAdd, Int.reduceEq, Int.reduceLT, Int.reduceLE, Int.reduceNeg, Int.reduceAdd, Int.reduceSub, Int.reduceMul, Int.reduceDiv, Int.reduceMod, Nat.reduceLT, Nat.reduceLeDiff, Nat.reduceMul, Nat.reduceSub, Int.reduceToNat, go_sem, Nat.le_refl, cellsV, Try.results33]
          refine ⟨⟨i + 1, hi, g2⟩, by simp only; omega, ?_⟩
          refine ⟨?_, ?_, ?_, ?_, ?_, ?_, ?_⟩ <;> simp only [mem_cons_, mem_nil_, lkp, hold_eq, b_some, frz_self, frz1_self, frzL_self, frzO_self, frzO_box, frzO_iter, frzL_cons, frzL_nil, frz_agg, frz1_row, frz1_nil, frz1_val, frz1_sl, frz1_rr, frz1_ptr, frz1_ms, frz_val, frz_sl, frz_row, frz_ptr, frz_ms, frz_fp, frz_tup, frz_fn, PV.lt, PV.ltL, PObj.lt, decide_true, Bool.true_and, Bool.and_true, Bool.and_self, Nat.reduceLT, Nat.reduceLeDiff, Nat.reduceEqDiff, if_true, if_false, ↓reduceIte, and_true, true_and, Nat.zero_le, reduceCtorEq, eq_self, decide_eq_true_eq, Int.natCast_add, Int.natCast_one] <;> try first | omega | ((repeat' (first | exact And.intro rfl (by omega) | (refine And.intro ?_ ?_))) <;> first | rfl | omega | (congr 3; omega) | (congr 2; omega))
        · unfold lexI at g2
          rw [if_neg hc] at g2
          rw [g2]
          generalize cmpV (a.items.getD i default) (b.items.getD i default) = cc at *
          simp (implicitDefEqProofs := false) (disch := omega) only [go_sem, reduceCtorEq, Nat.reduceEqDiff, Nat.reduceBEq, ↓reduceIte, Nat.reduceGT, Nat.reduceAdd, Int.reduceEq, Int.reduceLT, Int.reduceLE, Int.reduceNeg, Int.reduceAdd, Int.reduceSub, Int.reduceMul, Int.reduceDiv, Int.reduceMod, Nat.reduceLT, Nat.reduceLeDiff, Nat.reduceMul, Nat.reduceSub, Int.reduceToNat, go_sem, Nat.le_refl, cellsV, Try.results33]
    · rw [cmpL_end (by omega)] at g2
      rw [g2]
      simp (implicitDefEqProofs := false) (disch := omega) only [go_sem, reduceCtorEq, Nat.reduceEqDiff, Nat.reduceBEq, ↓reduceIte, Nat.reduceGT, Nat.reduceAdd, Int.reduceEq, Int.reduceLT, Int.reduceLE, Int.reduceNeg, Int.reduceAdd, Int.reduceSub, Int.reduceMul, Int.reduceDiv, Int.reduceMod, Nat.reduceLT, Nat.reduceLeDiff, Nat.reduceMul, Nat.reduceSub, Int.reduceToNat, go_sem, Nat.le_refl, cellsV, Try.results33]
      with_reducible refine CallOk.of (cmpI_ok (a.items.length : Int) (b.items.length : Int)) rfl ?_
      simp (implicitDefEqProofs := false) (disch := omega) only [go_sem, reduceCtorEq, Nat.reduceEqDiff, Nat.reduceBEq, ↓reduceIte, Nat.reduceGT, Nat.reduceAdd, Int.reduceEq, Int.reduceLT, Int.reduceLE, Int.reduceNeg, Int.reduceAdd, Int.reduceSub, Int.reduceMul, Int.reduceDiv, Int.reduceMod, Nat.reduceLT, Nat.reduceLeDiff, Nat.reduceMul, Nat.reduceSub, Int.reduceToNat, go_sem, Nat.le_refl, cellsV, Try.results33]
theorem vsame_ok (a b : V) (ha : szV a ≤ 1000000) (hga : goodB a = true) (hb : szV b ≤ 1000000) (hgb : goodB b = true) : Ok Try.prog 34 [.agg (cellsV a), .agg (cellsV b)] (vB (sameV a b)) := by
  have o := order_ok a ha hga b hb hgb
  refine Ok.of_pwp (by kernel_rfl) Try.func34 rfl (by kernel_rfl) (by kernel_rfl) ?_
  by_cases h : cmpV a b = 0
  · have e := cmpV_zero a b hga hgb h
    rw [sameV_T e]
    rw [h] at o
    simp (implicitDefEqProofs := false) (disch := omega) only [go_sem, reduceCtorEq, Nat.reduceEqDiff, Nat.reduceBEq, ↓reduceIte, Nat.reduceGT, Nat.reduceAdd, Int.reduceEq, Int.reduceLT, Int.reduceLE, Int.reduceNeg, Int.reduceAdd, Int.reduceSub, Int.reduceMul, Int.reduceDiv, Int.reduceMod, Nat.reduceLT, Nat.reduceLeDiff, Nat.reduceMul, Nat.reduceSub, Int.reduceToNat, go_sem, Nat.le_refl, cellsV, Try.results34]
    with_reducible refine CallOk.of (o) rfl ?_
    simp (implicitDefEqProofs := false) (disch := omega) only [go_sem, reduceCtorEq, Nat.reduceEqDiff, Nat.reduceBEq, ↓reduceIte, Nat.reduceGT, Nat.reduceAdd, Int.reduceEq, Int.reduceLT, Int.reduceLE, Int.reduceNeg, Int.reduceAdd, Int.reduceSub, Int.reduceMul, Int.reduceDiv, Int.reduceMod, Nat.reduceLT, Nat.reduceLeDiff, Nat.reduceMul, Nat.reduceSub, Int.reduceToNat, go_sem, Nat.le_refl, cellsV, Try.results34]
  · rw [sameV_F (fun e => h (by rw [e]; exact cmpV_self b))]
    generalize cmpV a b = c at *
    simp (implicitDefEqProofs := false) (disch := omega) only [go_sem, reduceCtorEq, Nat.reduceEqDiff, Nat.reduceBEq, ↓reduceIte, Nat.reduceGT, Nat.reduceAdd, Int.reduceEq, Int.reduceLT, Int.reduceLE, Int.reduceNeg, Int.reduceAdd, Int.reduceSub, Int.reduceMul, Int.reduceDiv, Int.reduceMod, Nat.reduceLT, Nat.reduceLeDiff, Nat.reduceMul, Nat.reduceSub, Int.reduceToNat, go_sem, Nat.le_refl, cellsV, Try.results34]
    with_reducible refine CallOk.of o rfl ?_
    simp (implicitDefEqProofs := false) (disch := omega) only [go_sem, reduceCtorEq, Nat.reduceEqDiff, Nat.reduceBEq, ↓reduceIte, Nat.reduceGT, Nat.reduceAdd, Int.reduceEq, Int.reduceLT, Int.reduceLE, Int.reduceNeg, Int.reduceAdd, Int.reduceSub, Int.reduceMul, Int.reduceDiv, Int.reduceMod, Nat.reduceLT, Nat.reduceLeDiff, Nat.reduceMul, Nat.reduceSub, Int.reduceToNat, go_sem, Nat.le_refl, cellsV, Try.results34]
    try rw [decide_eq_false h]
end Go.Proofs.Ytefhongghmimgaa
