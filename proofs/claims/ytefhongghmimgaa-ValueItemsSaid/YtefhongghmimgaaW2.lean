/-
  The law of items.
-/
import Derived.Test.YtefhongghmimgaaVT
import Derived.Test.YtefhongghmimgaaV8
open Go Go.Proofs Go.Pw Go.RowKit
namespace Go.Proofs.Ytefhongghmimgaa
set_option maxRecDepth 4000
set_option linter.unusedVariables false
set_option linter.unusedSimpArgs false
theorem posT_lt {l : List ByteArray} {t : ByteArray} {k : Nat} (h : k < posT l t) : ltT (l.getD k ByteArray.empty) t = true := by
  unfold posT at h
  induction l generalizing k with
  | nil => simp at h
  | cons x r ih =>
    rw [List.takeWhile_cons] at h
    split at h
    · rename_i hx
      cases k with
      | zero => exact hx
      | succ k => simp at h; simpa using ih (by omega)
    · simp at h
theorem find_T {l : List ByteArray} {t : ByteArray} (hf : foundT l t = true) : findF l t = (posT l t : Nat) := by
  unfold foundT at hf
  simp only [Bool.and_eq_true, decide_eq_true_eq] at hf
  obtain ⟨h1, h2⟩ := hf
  have hm := getD_mem (d := ByteArray.empty) h1
  rw [h2] at hm
  unfold findF
  rw [if_pos (List.any_eq_true.2 ⟨t, hm, decide_eq_true rfl⟩)]
  have : l.findIdx (fun s => decide (s = t)) = posT l t := by
    rw [List.findIdx_eq h1]
    have eg : l.getD (posT l t) ByteArray.empty = l[posT l t] := by rw [List.getD_eq_getElem?_getD, List.getElem?_eq_getElem h1]; rfl
    refine ⟨by rw [← eg]; exact decide_eq_true h2, fun j hj => ?_⟩
    have h3 := posT_lt hj
    have ej : l.getD j ByteArray.empty = l[j] := by rw [List.getD_eq_getElem?_getD, List.getElem?_eq_getElem (by omega)]; rfl
    rw [ej] at h3
    rw [decide_eq_false_iff_not]
    intro e
    rw [e, ltT_irr] at h3
    cases h3
  rw [this]
theorem find_F {l : List ByteArray} {t : ByteArray} (hs : SortT l) (hf : foundT l t = false) : findF l t = -1 := by
  unfold findF
  rw [if_neg]
  intro ha
  obtain ⟨s, hm, he⟩ := List.any_eq_true.1 ha
  obtain rfl := of_decide_eq_true he
  obtain ⟨i, hi⟩ := List.mem_iff_getElem?.1 hm
  have hil := (List.getElem?_eq_some_iff.1 hi).1
  have hg : l.getD i ByteArray.empty = s := by rw [List.getD_eq_getElem?_getD, hi]; rfl
  have hp : posT l s = i := posT_of (by omega) (fun k hk => by have := hs.get hk hil; rw [hg] at this; exact this) (fun _ => by rw [hg]; exact ltT_irr s)
  unfold foundT at hf
  rw [hp, decide_eq_true hil, hg, decide_eq_true rfl] at hf
  cases hf
set_option maxHeartbeats 4000000 in
theorem items_ok (l : List Nd) (key : ByteArray) (hN : NdsOk l) (hl : l.length ≤ 9223372036854775807) (hk : key.size ≤ 140737488351232) : Ok Try.prog 4 [.sl (encN l), vS key] (vB true) := by
  refine Ok.of_pwp (by kernel_rfl) Try.func4 rfl (by kernel_rfl) (by kernel_rfl) ?_
  simp (implicitDefEqProofs := false) (disch := omega) only [go_sem, reduceCtorEq, Nat.reduceEqDiff, Nat.reduceBEq, ↓reduceIte, Nat.reduceGT, Nat.reduceAdd, Int.reduceEq, Int.reduceLT, Int.reduceLE, Int.reduceNeg, Int.reduceAdd, Int.reduceSub, Int.reduceMul, Int.reduceDiv, Int.reduceMod, Nat.reduceLT, Nat.reduceLeDiff, Nat.reduceMul, Nat.reduceSub, Int.reduceToNat, go_sem, Nat.le_refl, cellsV, Try.results4, decide_true, decide_eq_true_eq]
  with_reducible refine CallOk.of (awake_ok) rfl ?_
  simp (implicitDefEqProofs := false) (disch := omega) only [go_sem, reduceCtorEq, Nat.reduceEqDiff, Nat.reduceBEq, ↓reduceIte, Nat.reduceGT, Nat.reduceAdd, Int.reduceEq, Int.reduceLT, Int.reduceLE, Int.reduceNeg, Int.reduceAdd, Int.reduceSub, Int.reduceMul, Int.reduceDiv, Int.reduceMod, Nat.reduceLT, Nat.reduceLeDiff, Nat.reduceMul, Nat.reduceSub, Int.reduceToNat, go_sem, Nat.le_refl, cellsV, Try.results4, decide_true, decide_eq_true_eq]
  by_cases h1 : key.size ≤ 100
  rotate_left
  · simp (implicitDefEqProofs := false) (disch := omega) only [go_sem, reduceCtorEq, Nat.reduceEqDiff, Nat.reduceBEq, ↓reduceIte, Nat.reduceGT, Nat.reduceAdd, Int.reduceEq, Int.reduceLT, Int.reduceLE, Int.reduceNeg, Int.reduceAdd, Int.reduceSub, Int.reduceMul, Int.reduceDiv, Int.reduceMod, Nat.reduceLT, Nat.reduceLeDiff, Nat.reduceMul, Nat.reduceSub, Int.reduceToNat, go_sem, Nat.le_refl, cellsV, Try.results4, decide_true, decide_eq_true_eq]
    with_reducible refine CallOk.of (awake_ok) rfl ?_
    simp (implicitDefEqProofs := false) (disch := omega) only [go_sem, reduceCtorEq, Nat.reduceEqDiff, Nat.reduceBEq, ↓reduceIte, Nat.reduceGT, Nat.reduceAdd, Int.reduceEq, Int.reduceLT, Int.reduceLE, Int.reduceNeg, Int.reduceAdd, Int.reduceSub, Int.reduceMul, Int.reduceDiv, Int.reduceMod, Nat.reduceLT, Nat.reduceLeDiff, Nat.reduceMul, Nat.reduceSub, Int.reduceToNat, go_sem, Nat.le_refl, cellsV, Try.results4, decide_true, decide_eq_true_eq]
  simp (implicitDefEqProofs := false) (disch := omega) only [go_sem, reduceCtorEq, Nat.reduceEqDiff, Nat.reduceBEq, ↓reduceIte, Nat.reduceGT, Nat.reduceAdd, Int.reduceEq, Int.reduceLT, Int.reduceLE, Int.reduceNeg, Int.reduceAdd, Int.reduceSub, Int.reduceMul, Int.reduceDiv, Int.reduceMod, Nat.reduceLT, Nat.reduceLeDiff, Nat.reduceMul, Nat.reduceSub, Int.reduceToNat, go_sem, Nat.le_refl, cellsV, Try.results4, decide_true, decide_eq_true_eq]
  refine CallOk.ofI (OkI.ofQ (st := ⟨[], _, _, _, _⟩) (tree_ok l hN hl) ?_) rfl rfl rfl rfl ?_
  · rfl
  rintro r st1 ⟨⟨v, hv, rfl⟩, rfl⟩
  have hs := hv.sz
  obtain ⟨_, _, hx, _⟩ := V.small hs
  have c1 := real_ok v (by omega)
  have c2 := item_ok v key (by omega) hv.sort hv.lens
  have c3 := find_ok v key (by omega)
  have hlen := hv.lens
  cases hf : foundT v.keys key with
  | true =>
    have hp : posT v.keys key < v.keys.length := by unfold foundT at hf; simp at hf; exact hf.1
    have hxy := hx _ (getD_mem (l := v.items) (i := posT v.keys key) (d := default) (by omega))
    have c4 := ref_ok (v.items.getD (posT v.keys key) default) (by omega)
    have c5 := same_ok (v.items.getD (posT v.keys key) default) (by omega) (v.items.getD (posT v.keys key) default) (by omega)
    rw [sameV_T rfl] at c5
    rw [itemF, if_pos hf] at c2
    rw [find_T hf] at c3
    generalize posT v.keys key = p at *
    simp (implicitDefEqProofs := false) (disch := omega) only [go_sem, reduceCtorEq, Nat.reduceEqDiff, Nat.reduceBEq, ↓reduceIte, Nat.reduceGT, Nat.reduceAdd, Int.reduceEq, Int.reduceLT, Int.reduceLE, Int.reduceNeg, Int.reduceAdd, Int.reduceSub, Int.reduceMul, Int.reduceDiv, Int.reduceMod, Nat.reduceLT, Nat.reduceLeDiff, Nat.reduceMul, Nat.reduceSub, Int.reduceToNat, go_sem, Nat.le_refl, cellsV, Try.results4, decide_true, decide_eq_true_eq]
    with_reducible refine CallOk.of (c1) rfl ?_
    simp (implicitDefEqProofs := false) (disch := omega) only [go_sem, reduceCtorEq, Nat.reduceEqDiff, Nat.reduceBEq, ↓reduceIte, Nat.reduceGT, Nat.reduceAdd, Int.reduceEq, Int.reduceLT, Int.reduceLE, Int.reduceNeg, Int.reduceAdd, Int.reduceSub, Int.reduceMul, Int.reduceDiv, Int.reduceMod, Nat.reduceLT, Nat.reduceLeDiff, Nat.reduceMul, Nat.reduceSub, Int.reduceToNat, go_sem, Nat.le_refl, cellsV, Try.results4, decide_true, decide_eq_true_eq]
    with_reducible refine CallOk.of (c2) rfl ?_
    simp (implicitDefEqProofs := false) (disch := omega) only [go_sem, reduceCtorEq, Nat.reduceEqDiff, Nat.reduceBEq, ↓reduceIte, Nat.reduceGT, Nat.reduceAdd, Int.reduceEq, Int.reduceLT, Int.reduceLE, Int.reduceNeg, Int.reduceAdd, Int.reduceSub, Int.reduceMul, Int.reduceDiv, Int.reduceMod, Nat.reduceLT, Nat.reduceLeDiff, Nat.reduceMul, Nat.reduceSub, Int.reduceToNat, go_sem, Nat.le_refl, cellsV, Try.results4, decide_true, decide_eq_true_eq]
    with_reducible refine CallOk.of (c3) rfl ?_
    simp (implicitDefEqProofs := false) (disch := omega) only [go_sem, reduceCtorEq, Nat.reduceEqDiff, Nat.reduceBEq, ↓reduceIte, Nat.reduceGT, Nat.reduceAdd, Int.reduceEq, Int.reduceLT, Int.reduceLE, Int.reduceNeg, Int.reduceAdd, Int.reduceSub, Int.reduceMul, Int.reduceDiv, Int.reduceMod, Nat.reduceLT, Nat.reduceLeDiff, Nat.reduceMul, Nat.reduceSub, Int.reduceToNat, go_sem, Nat.le_refl, cellsV, Try.results4, decide_true, decide_eq_true_eq]
    with_reducible refine CallOk.of (c4) rfl ?_
    simp (implicitDefEqProofs := false) (disch := omega) only [go_sem, reduceCtorEq, Nat.reduceEqDiff, Nat.reduceBEq, ↓reduceIte, Nat.reduceGT, Nat.reduceAdd, Int.reduceEq, Int.reduceLT, Int.reduceLE, Int.reduceNeg, Int.reduceAdd, Int.reduceSub, Int.reduceMul, Int.reduceDiv, Int.reduceMod, Nat.reduceLT, Nat.reduceLeDiff, Nat.reduceMul, Nat.reduceSub, Int.reduceToNat, go_sem, Nat.le_refl, cellsV, Try.results4, decide_true, decide_eq_true_eq]
    with_reducible refine CallOk.of (c5) rfl ?_
    simp (implicitDefEqProofs := false) (disch := omega) only [go_sem, reduceCtorEq, Nat.reduceEqDiff, Nat.reduceBEq, ↓reduceIte, Nat.reduceGT, Nat.reduceAdd, Int.reduceEq, Int.reduceLT, Int.reduceLE, Int.reduceNeg, Int.reduceAdd, Int.reduceSub, Int.reduceMul, Int.reduceDiv, Int.reduceMod, Nat.reduceLT, Nat.reduceLeDiff, Nat.reduceMul, Nat.reduceSub, Int.reduceToNat, go_sem, Nat.le_refl, cellsV, Try.results4, decide_true, decide_eq_true_eq]
  | false =>
    have c4 := ref_ok vZero (by rw [szV_eq]; decide +kernel)
    have c5 := same_ok vZero (by rw [szV_eq]; decide +kernel) vZero (by rw [szV_eq]; decide +kernel)
    rw [sameV_T rfl] at c5
    simp only [cellsV, vZero, V.kind_mk, V.b_mk, V.n_mk, V.s_mk, V.items_mk, V.keys_mk, encV_nil, encT_nil] at c4 c5
    rw [itemF, if_neg (by rw [hf]; decide)] at c2
    simp only [cellsV, vZero, V.kind_mk, V.b_mk, V.n_mk, V.s_mk, V.items_mk, V.keys_mk, encV_nil, encT_nil] at c2
    rw [find_F hv.sort hf] at c3
    simp (implicitDefEqProofs := false) (disch := omega) only [go_sem, reduceCtorEq, Nat.reduceEqDiff, Nat.reduceBEq, ↓reduceIte, Nat.reduceGT, Nat.reduceAdd, Int.reduceEq, Int.reduceLT, Int.reduceLE, Int.reduceNeg, Int.reduceAdd, Int.reduceSub, Int.reduceMul, Int.reduceDiv, Int.reduceMod, Nat.reduceLT, Nat.reduceLeDiff, Nat.reduceMul, Nat.reduceSub, Int.reduceToNat, go_sem, Nat.le_refl, cellsV, Try.results4, decide_true, decide_eq_true_eq]
    with_reducible refine CallOk.of (c1) rfl ?_
    simp (implicitDefEqProofs := false) (disch := omega) only [go_sem, reduceCtorEq, Nat.reduceEqDiff, Nat.reduceBEq, ↓reduceIte, Nat.reduceGT, Nat.reduceAdd, Int.reduceEq, Int.reduceLT, Int.reduceLE, Int.reduceNeg, Int.reduceAdd, Int.reduceSub, Int.reduceMul, Int.reduceDiv, Int.reduceMod, Nat.reduceLT, Nat.reduceLeDiff, Nat.reduceMul, Nat.reduceSub, Int.reduceToNat, go_sem, Nat.le_refl, cellsV, Try.results4, decide_true, decide_eq_true_eq]
    with_reducible refine CallOk.of (c2) rfl ?_
    simp (implicitDefEqProofs := false) (disch := omega) only [go_sem, reduceCtorEq, Nat.reduceEqDiff, Nat.reduceBEq, ↓reduceIte, Nat.reduceGT, Nat.reduceAdd, Int.reduceEq, Int.reduceLT, Int.reduceLE, Int.reduceNeg, Int.reduceAdd, Int.reduceSub, Int.reduceMul, Int.reduceDiv, Int.reduceMod, Nat.reduceLT, Nat.reduceLeDiff, Nat.reduceMul, Nat.reduceSub, Int.reduceToNat, go_sem, Nat.le_refl, cellsV, Try.results4, decide_true, decide_eq_true_eq]
    with_reducible refine CallOk.of (c3) rfl ?_
    simp (implicitDefEqProofs := false) (disch := omega) only [go_sem, reduceCtorEq, Nat.reduceEqDiff, Nat.reduceBEq, ↓reduceIte, Nat.reduceGT, Nat.reduceAdd, Int.reduceEq, Int.reduceLT, Int.reduceLE, Int.reduceNeg, Int.reduceAdd, Int.reduceSub, Int.reduceMul, Int.reduceDiv, Int.reduceMod, Nat.reduceLT, Nat.reduceLeDiff, Nat.reduceMul, Nat.reduceSub, Int.reduceToNat, go_sem, Nat.le_refl, cellsV, Try.results4, decide_true, decide_eq_true_eq]
    with_reducible refine CallOk.of (c4) rfl ?_
    simp (implicitDefEqProofs := false) (disch := omega) only [go_sem, reduceCtorEq, Nat.reduceEqDiff, Nat.reduceBEq, ↓reduceIte, Nat.reduceGT, Nat.reduceAdd, Int.reduceEq, Int.reduceLT, Int.reduceLE, Int.reduceNeg, Int.reduceAdd, Int.reduceSub, Int.reduceMul, Int.reduceDiv, Int.reduceMod, Nat.reduceLT, Nat.reduceLeDiff, Nat.reduceMul, Nat.reduceSub, Int.reduceToNat, go_sem, Nat.le_refl, cellsV, Try.results4, decide_true, decide_eq_true_eq]
    with_reducible refine CallOk.of (c5) rfl ?_
    simp (implicitDefEqProofs := false) (disch := omega) only [go_sem, reduceCtorEq, Nat.reduceEqDiff, Nat.reduceBEq, ↓reduceIte, Nat.reduceGT, Nat.reduceAdd, Int.reduceEq, Int.reduceLT, Int.reduceLE, Int.reduceNeg, Int.reduceAdd, Int.reduceSub, Int.reduceMul, Int.reduceDiv, Int.reduceMod, Nat.reduceLT, Nat.reduceLeDiff, Nat.reduceMul, Nat.reduceSub, Int.reduceToNat, go_sem, Nat.le_refl, cellsV, Try.results4, decide_true, decide_eq_true_eq]
end Go.Proofs.Ytefhongghmimgaa
