/-
  Numbers' texts: the document's Number, Parse.
-/
import Derived.Test.YtegehnojbfedlaaDoorWP
open Go Go.Proofs Go.Pw
namespace Go.Proofs.YtegehnojbfedlaaDoor
set_option maxRecDepth 4000
set_option linter.unusedVariables false
set_option linter.unusedSimpArgs false
/-- A number that isn't below 0. -/
abbrev nz (z : Int) : PV := .agg [vB false, .sl (encI (figs z.natAbs))]
theorem repN_nn {z : Int} (h : 0 ≤ z) : repN z = nz z := by unfold repN; rw [decide_eq_false (by omega)]
theorem fg1 {z : Int} (h : z.natAbs < 10000) : Fg 1 z := by unfold Fg; simpa using h
set_option maxHeartbeats 4000000 in
theorem number_ok (t : ByteArray) (h : allD t 0) (ht : t.size ≤ 8000) : Ok Tryd.prog 50 [vS t] (repN (numV t t.size)) := by
  have c1 : Ok Tryd.prog 18 [vI 10] (nz 10) := by rw [← repN_nn (by decide)]; exact of_rep 10 (by decide)
  rw [repN_nn (numV_nn h (Nat.le_refl _))]
  refine Ok.of_pwp (by kernel_rfl) Tryd.func50 rfl (by kernel_rfl) (by kernel_rfl) ?_
  simp (implicitDefEqProofs := false) (disch := omega) only [go_sem, reduceCtorEq, Nat.reduceEqDiff, Nat.reduceBEq, ↓reduceIte, Nat.reduceGT, Nat.reduceAdd, Int.reduceEq, Int.reduceLT, Int.reduceLE, Int.reduceNeg, Int.reduceAdd, Int.reduceSub, Int.reduceMul, Int.reduceDiv, Int.reduceMod, Nat.reduceLT, Nat.reduceLeDiff, Nat.reduceMul, Nat.reduceSub, Int.reduceToNat, go_sem, Nat.le_refl, Int.toNat_natCast, Int.toNat_zero, Int.toNat_one, Tryd.results50]
  refine p_loop (ι := { i : Nat // i ≤ t.size }) (fun i => ⟨[(4, vI i.1), (3, .ptr 2 0), (2, .ptr 0 0), (0, vS t)], [(2, .box 44 [vB false, .sl (encI (figs (numV t i.1).natAbs))]), (0, .box 44 [vB false, vNil])], [], 3, 0⟩) (fun i => t.size - i.1) ⟨0, Nat.zero_le _⟩ ?_ ?_
  · refine ⟨?_, ?_, ?_, ?_, ?_, ?_, ?_⟩ <;> simp only [mem_cons_, mem_nil_, lkp, hold_eq, b_some, frz_self, frz1_self, frzL_self, frzO_self, frzO_box, frzO_iter, frzL_cons, frzL_nil, frz_agg, frz1_row, frz1_nil, frz1_val, frz1_sl, frz1_rr, frz1_ptr, frz1_ms, frz_val, frz_sl, frz_row, frz_ptr, frz_ms, frz_fp, frz_tup, frz_fn, PV.lt, PV.ltL, PObj.lt, decide_true, Bool.true_and, Bool.and_true, Bool.and_self, Nat.reduceLT, Nat.reduceLeDiff, Nat.reduceEqDiff, if_true, if_false, ↓reduceIte, and_true, true_and, Nat.zero_le, reduceCtorEq, eq_self, decide_eq_true_eq, Int.natCast_zero, numV, Int.natAbs_zero, figs_zero, encI_nil] <;> try first | omega | ((repeat' (first | exact And.intro rfl (by omega) | (refine And.intro ?_ ?_))) <;> first | rfl | omega | (congr 3; omega) | (congr 2; omega))
  · rintro ⟨i, hi⟩
    simp only
    by_cases hl : i < t.size
    · have d := h i hl (Nat.zero_le _)
      unfold isD at d
      have nn := numV_nn h hi
      have fg := numV_fg h hi
      have nn1 := numV_nn h (i := i + 1) (by omega)
      have ew : IntKind.u8.wrap (bt t i - 48) = bt t i - 48 := by rw [IntKind.wrap_u8]; omega
      have ew2 : IntKind.i64.wrap (bt t i - 48) = bt t i - 48 := by rw [IntKind.wrap_i64]; omega
      have c2 := mul_rep (j := i) (k := 1) (numV t i) 10 fg (fg1 (by decide)) (by omega)
      rw [repN_nn nn, repN_nn (show (0 : Int) ≤ 10 by decide), repN_nn (by omega)] at c2
      have c3 := of_rep (bt t i - 48) (by unfold fits; omega)
      rw [repN_nn (by omega)] at c3
      have c4 := add_rep (numV t i * 10) (bt t i - 48) ((fg.mul (fg1 (z := 10) (by decide))).sm (by omega)) ((fg1 (by omega)).sm (by decide))
      rw [repN_nn (by omega), repN_nn (by omega), repN_nn (by rw [numV] at nn1; exact nn1)] at c4
      simp (implicitDefEqProofs := false) (disch := omega) only [go_sem, reduceCtorEq, Nat.reduceEqDiff, Nat.reduceBEq, ↓reduceIte, Nat.reduceGT, Nat.reduceAdd, Int.reduceEq, Int.reduceLT, Int.reduceLE, Int.reduceNeg, Int.reduceAdd, Int.reduceSub, Int.reduceMul, Int.reduceDiv, Int.reduceMod, Nat.reduceLT, Nat.reduceLeDiff, Nat.reduceMul, Nat.reduceSub, Int.reduceToNat, go_sem, Nat.le_refl, Int.toNat_natCast, Int.toNat_zero, Int.toNat_one, Tryd.results50, ew, ew2]
      with_reducible refine CallOk.of c1 rfl ?_
      simp (implicitDefEqProofs := false) (disch := omega) only [go_sem, reduceCtorEq, Nat.reduceEqDiff, Nat.reduceBEq, ↓reduceIte, Nat.reduceGT, Nat.reduceAdd, Int.reduceEq, Int.reduceLT, Int.reduceLE, Int.reduceNeg, Int.reduceAdd, Int.reduceSub, Int.reduceMul, Int.reduceDiv, Int.reduceMod, Nat.reduceLT, Nat.reduceLeDiff, Nat.reduceMul, Nat.reduceSub, Int.reduceToNat, go_sem, Nat.le_refl, Int.toNat_natCast, Int.toNat_zero, Int.toNat_one, Tryd.results50, ew, ew2]
      with_reducible refine CallOk.of c2 rfl ?_
      simp (implicitDefEqProofs := false) (disch := omega) only [go_sem, reduceCtorEq, Nat.reduceEqDiff, Nat.reduceBEq, ↓reduceIte, Nat.reduceGT, Nat.reduceAdd, Int.reduceEq, Int.reduceLT, Int.reduceLE, Int.reduceNeg, Int.reduceAdd, Int.reduceSub, Int.reduceMul, Int.reduceDiv, Int.reduceMod, Nat.reduceLT, Nat.reduceLeDiff, Nat.reduceMul, Nat.reduceSub, Int.reduceToNat, go_sem, Nat.le_refl, Int.toNat_natCast, Int.toNat_zero, Int.toNat_one, Tryd.results50, ew, ew2]
      with_reducible refine CallOk.of c3 rfl ?_
      simp (implicitDefEqProofs := false) (disch := omega) only [go_sem, reduceCtorEq, Nat.reduceEqDiff, Nat.reduceBEq, ↓reduceIte, Nat.reduceGT, Nat.reduceAdd, Int.reduceEq, Int.reduceLT, Int.reduceLE, Int.reduceNeg, Int.reduceAdd, Int.reduceSub, Int.reduceMul, Int.reduceDiv, Int.reduceMod, Nat.reduceLT, Nat.reduceLeDiff, Nat.reduceMul, Nat.reduceSub, Int.reduceToNat, go_sem, Nat.le_refl, Int.toNat_natCast, Int.toNat_zero, Int.toNat_one, Tryd.results50, ew, ew2]
      with_reducible refine CallOk.of c4 rfl ?_
      simp (implicitDefEqProofs := false) (disch := omega) only [go_sem, reduceCtorEq, Nat.reduceEqDiff, Nat.reduceBEq, ↓reduceIte, Nat.reduceGT, Nat.reduceAdd, Int.reduceEq, Int.reduceLT, Int.reduceLE, Int.reduceNeg, Int.reduceAdd, Int.reduceSub, Int.reduceMul, Int.reduceDiv, Int.reduceMod, Nat.reduceLT, Nat.reduceLeDiff, Nat.reduceMul, Nat.reduceSub, Int.reduceToNat, go_sem, Nat.le_refl, Int.toNat_natCast, Int.toNat_zero, Int.toNat_one, Tryd.results50, ew, ew2]
      refine ⟨⟨i + 1, hl⟩, by simp only; omega, ?_⟩
      simp only [numV]
      refine ⟨?_, ?_, ?_, ?_, ?_, ?_, ?_⟩ <;> simp only [mem_cons_, mem_nil_, lkp, hold_eq, b_some, frz_self, frz1_self, frzL_self, frzO_self, frzO_box, frzO_iter, frzL_cons, frzL_nil, frz_agg, frz1_row, frz1_nil, frz1_val, frz1_sl, frz1_rr, frz1_ptr, frz1_ms, frz_val, frz_sl, frz_row, frz_ptr, frz_ms, frz_fp, frz_tup, frz_fn, PV.lt, PV.ltL, PObj.lt, decide_true, Bool.true_and, Bool.and_true, Bool.and_self, Nat.reduceLT, Nat.reduceLeDiff, Nat.reduceEqDiff, if_true, if_false, ↓reduceIte, and_true, true_and, Nat.zero_le, reduceCtorEq, eq_self, decide_eq_true_eq, Int.natCast_add, Int.natCast_one] <;> try first | omega | ((repeat' (first | exact And.intro rfl (by omega) | (refine And.intro ?_ ?_))) <;> first | rfl | omega | (congr 3; omega) | (congr 2; omega))
    · have hi' : i = t.size := by omega
      subst hi'
      simp (implicitDefEqProofs := false) (disch := omega) only [go_sem, reduceCtorEq, Nat.reduceEqDiff, Nat.reduceBEq, ↓reduceIte, Nat.reduceGT, Nat.reduceAdd, Int.reduceEq, Int.reduceLT, Int.reduceLE, Int.reduceNeg, Int.reduceAdd, Int.reduceSub, Int.reduceMul, Int.reduceDiv, Int.reduceMod, Nat.reduceLT, Nat.reduceLeDiff, Nat.reduceMul, Nat.reduceSub, Int.reduceToNat, go_sem, Nat.le_refl, Int.toNat_natCast, Int.toNat_zero, Int.toNat_one, Tryd.results50]
def pC (s : ByteArray) : Int := if formP s then (if fits (zOf s) then 0 else 4) else 1
def pV (s : ByteArray) : Int := if pC s = 0 then zOf s else 0
theorem pC_0 {s : ByteArray} (h : formP s) (k : fits (zOf s)) : pC s = 0 := by rw [pC, if_pos h, if_pos k]
theorem pC_4 {s : ByteArray} (h : formP s) (k : ¬ fits (zOf s)) : pC s = 4 := by rw [pC, if_pos h, if_neg k]
theorem pC_1 {s : ByteArray} (h : ¬ formP s) : pC s = 1 := by rw [pC, if_neg h]
theorem pV_0 {s : ByteArray} (h : pC s = 0) : pV s = zOf s := by rw [pV, if_pos h]
theorem pV_n {s : ByteArray} (h : pC s ≠ 0) : pV s = 0 := by rw [pV, if_neg h]
theorem repN_zero : repN 0 = .agg [vB false, .sl []] := by unfold repN; rw [Int.natAbs_zero, figs_zero]; rfl
set_option maxHeartbeats 4000000 in
theorem rparse_ok (s : ByteArray) (hs : s.size ≤ 8000) : Ok Tryd.prog 33 [vS s] (.tup [repN (pV s), vI (pC s)]) := by
  have c0 := rform_ok s (by omega)
  refine Ok.of_pwp (by kernel_rfl) Tryd.func33 rfl (by kernel_rfl) (by kernel_rfl) ?_
  by_cases hf : formP s
  · have h0 : fromF s < s.size := hf.1
    have c1 := number_ok (digS s) (digS_all hf) (by rw [digS_size hf]; omega)
    have fg := numV_fg (digS_all hf) (Nat.le_refl _)
    have hz := digS_size hf
    rw [decide_eq_true hf] at c0
    simp (implicitDefEqProofs := false) (disch := omega) only [go_sem, reduceCtorEq, Nat.reduceEqDiff, Nat.reduceBEq, ↓reduceIte, Nat.reduceGT, Nat.reduceAdd, Int.reduceEq, Int.reduceLT, Int.reduceLE, Int.reduceNeg, Int.reduceAdd, Int.reduceSub, Int.reduceMul, Int.reduceDiv, Int.reduceMod, Nat.reduceLT, Nat.reduceLeDiff, Nat.reduceMul, Nat.reduceSub, Int.reduceToNat, go_sem, Nat.le_refl, Int.toNat_natCast, Int.toNat_zero, Int.toNat_one, Tryd.results33]
    with_reducible refine CallOk.of c0 rfl ?_
    by_cases hb0 : bt s 0 = 45
    · have e1 : digS s = s.extract 1 s.size := by unfold digS; rw [if_pos hb0]
      have e2 : zOf s = -(numV (digS s) (digS s).size) := by unfold zOf; rw [if_pos hb0]
      have c2 := neg_rep (numV (digS s) (digS s).size) (fg.sm (by omega))
      have c3 := fits_rep (zOf s) (by rw [e2]; exact fg.neg.sm (by omega))
      rw [← e2] at c2
      rw [e1] at c1
      rw [e1] at c2
      unfold repN at c1 c2 c3
      simp (implicitDefEqProofs := false) (disch := omega) only [go_sem, reduceCtorEq, Nat.reduceEqDiff, Nat.reduceBEq, ↓reduceIte, Nat.reduceGT, Nat.reduceAdd, Int.reduceEq, Int.reduceLT, Int.reduceLE, Int.reduceNeg, Int.reduceAdd, Int.reduceSub, Int.reduceMul, Int.reduceDiv, Int.reduceMod, Nat.reduceLT, Nat.reduceLeDiff, Nat.reduceMul, Nat.reduceSub, Int.reduceToNat, go_sem, Nat.le_refl, Int.toNat_natCast, Int.toNat_zero, Int.toNat_one, Tryd.results33, hb0]
      with_reducible refine CallOk.of c1 rfl ?_
      simp (implicitDefEqProofs := false) (disch := omega) only [go_sem, reduceCtorEq, Nat.reduceEqDiff, Nat.reduceBEq, ↓reduceIte, Nat.reduceGT, Nat.reduceAdd, Int.reduceEq, Int.reduceLT, Int.reduceLE, Int.reduceNeg, Int.reduceAdd, Int.reduceSub, Int.reduceMul, Int.reduceDiv, Int.reduceMod, Nat.reduceLT, Nat.reduceLeDiff, Nat.reduceMul, Nat.reduceSub, Int.reduceToNat, go_sem, Nat.le_refl, Int.toNat_natCast, Int.toNat_zero, Int.toNat_one, Tryd.results33, hb0]
      with_reducible refine CallOk.of c2 rfl ?_
      simp (implicitDefEqProofs := false) (disch := omega) only [go_sem, reduceCtorEq, Nat.reduceEqDiff, Nat.reduceBEq, ↓reduceIte, Nat.reduceGT, Nat.reduceAdd, Int.reduceEq, Int.reduceLT, Int.reduceLE, Int.reduceNeg, Int.reduceAdd, Int.reduceSub, Int.reduceMul, Int.reduceDiv, Int.reduceMod, Nat.reduceLT, Nat.reduceLeDiff, Nat.reduceMul, Nat.reduceSub, Int.reduceToNat, go_sem, Nat.le_refl, Int.toNat_natCast, Int.toNat_zero, Int.toNat_one, Tryd.results33, hb0]
      with_reducible refine CallOk.of c3 rfl ?_
      by_cases hk : fits (zOf s)
      · rw [pV_0 (pC_0 hf hk), pC_0 hf hk, decide_eq_true hk]
        simp (implicitDefEqProofs := false) (disch := omega) only [go_sem, reduceCtorEq, Nat.reduceEqDiff, Nat.reduceBEq, ↓reduceIte, Nat.reduceGT, Nat.reduceAdd, Int.reduceEq, Int.reduceLT, Int.reduceLE, Int.reduceNeg, Int.reduceAdd, Int.reduceSub, Int.reduceMul, Int.reduceDiv, Int.reduceMod, Nat.reduceLT, Nat.reduceLeDiff, Nat.reduceMul, Nat.reduceSub, Int.reduceToNat, go_sem, Nat.le_refl, Int.toNat_natCast, Int.toNat_zero, Int.toNat_one, Tryd.results33, hb0]
        rfl
      · rw [pV_n (by rw [pC_4 hf hk]; decide), pC_4 hf hk, decide_eq_false hk, repN_zero]
        simp (implicitDefEqProofs := false) (disch := omega) only [go_sem, reduceCtorEq, Nat.reduceEqDiff, Nat.reduceBEq, ↓reduceIte, Nat.reduceGT, Nat.reduceAdd, Int.reduceEq, Int.reduceLT, Int.reduceLE, Int.reduceNeg, Int.reduceAdd, Int.reduceSub, Int.reduceMul, Int.reduceDiv, Int.reduceMod, Nat.reduceLT, Nat.reduceLeDiff, Nat.reduceMul, Nat.reduceSub, Int.reduceToNat, go_sem, Nat.le_refl, Int.toNat_natCast, Int.toNat_zero, Int.toNat_one, Tryd.results33, hb0]
    · have e1 : digS s = s := by unfold digS; rw [if_neg hb0]
      have e2 : zOf s = numV (digS s) (digS s).size := by unfold zOf; rw [if_neg hb0]
      have c3 := fits_rep (zOf s) (by rw [e2]; exact fg.sm (by omega))
      rw [← e2, e1] at c1
      unfold repN at c1 c3
      simp (implicitDefEqProofs := false) (disch := omega) only [go_sem, reduceCtorEq, Nat.reduceEqDiff, Nat.reduceBEq, ↓reduceIte, Nat.reduceGT, Nat.reduceAdd, Int.reduceEq, Int.reduceLT, Int.reduceLE, Int.reduceNeg, Int.reduceAdd, Int.reduceSub, Int.reduceMul, Int.reduceDiv, Int.reduceMod, Nat.reduceLT, Nat.reduceLeDiff, Nat.reduceMul, Nat.reduceSub, Int.reduceToNat, go_sem, Nat.le_refl, Int.toNat_natCast, Int.toNat_zero, Int.toNat_one, Tryd.results33, hb0]
      with_reducible refine CallOk.of c1 rfl ?_
      simp (implicitDefEqProofs := false) (disch := omega) only [go_sem, reduceCtorEq, Nat.reduceEqDiff, Nat.reduceBEq, ↓reduceIte, Nat.reduceGT, Nat.reduceAdd, Int.reduceEq, Int.reduceLT, Int.reduceLE, Int.reduceNeg, Int.reduceAdd, Int.reduceSub, Int.reduceMul, Int.reduceDiv, Int.reduceMod, Nat.reduceLT, Nat.reduceLeDiff, Nat.reduceMul, Nat.reduceSub, Int.reduceToNat, go_sem, Nat.le_refl, Int.toNat_natCast, Int.toNat_zero, Int.toNat_one, Tryd.results33, hb0]
      with_reducible refine CallOk.of c3 rfl ?_
      by_cases hk : fits (zOf s)
      · rw [pV_0 (pC_0 hf hk), pC_0 hf hk, decide_eq_true hk]
        simp (implicitDefEqProofs := false) (disch := omega) only [go_sem, reduceCtorEq, Nat.reduceEqDiff, Nat.reduceBEq, ↓reduceIte, Nat.reduceGT, Nat.reduceAdd, Int.reduceEq, Int.reduceLT, Int.reduceLE, Int.reduceNeg, Int.reduceAdd, Int.reduceSub, Int.reduceMul, Int.reduceDiv, Int.reduceMod, Nat.reduceLT, Nat.reduceLeDiff, Nat.reduceMul, Nat.reduceSub, Int.reduceToNat, go_sem, Nat.le_refl, Int.toNat_natCast, Int.toNat_zero, Int.toNat_one, Tryd.results33, hb0]
        rfl
      · rw [pV_n (by rw [pC_4 hf hk]; decide), pC_4 hf hk, decide_eq_false hk, repN_zero]
        simp (implicitDefEqProofs := false) (disch := omega) only [go_sem, reduceCtorEq, Nat.reduceEqDiff, Nat.reduceBEq, ↓reduceIte, Nat.reduceGT, Nat.reduceAdd, Int.reduceEq, Int.reduceLT, Int.reduceLE, Int.reduceNeg, Int.reduceAdd, Int.reduceSub, Int.reduceMul, Int.reduceDiv, Int.reduceMod, Nat.reduceLT, Nat.reduceLeDiff, Nat.reduceMul, Nat.reduceSub, Int.reduceToNat, go_sem, Nat.le_refl, Int.toNat_natCast, Int.toNat_zero, Int.toNat_one, Tryd.results33, hb0]
  · rw [decide_eq_false hf] at c0
    rw [pV_n (by rw [pC_1 hf]; decide), pC_1 hf, repN_zero]
    simp (implicitDefEqProofs := false) (disch := omega) only [go_sem, reduceCtorEq, Nat.reduceEqDiff, Nat.reduceBEq, ↓reduceIte, Nat.reduceGT, Nat.reduceAdd, Int.reduceEq, Int.reduceLT, Int.reduceLE, Int.reduceNeg, Int.reduceAdd, Int.reduceSub, Int.reduceMul, Int.reduceDiv, Int.reduceMod, Nat.reduceLT, Nat.reduceLeDiff, Nat.reduceMul, Nat.reduceSub, Int.reduceToNat, go_sem, Nat.le_refl, Int.toNat_natCast, Int.toNat_zero, Int.toNat_one, Tryd.results33]
    with_reducible refine CallOk.of c0 rfl ?_
    simp (implicitDefEqProofs := false) (disch := omega) only [go_sem, reduceCtorEq, Nat.reduceEqDiff, Nat.reduceBEq, ↓reduceIte, Nat.reduceGT, Nat.reduceAdd, Int.reduceEq, Int.reduceLT, Int.reduceLE, Int.reduceNeg, Int.reduceAdd, Int.reduceSub, Int.reduceMul, Int.reduceDiv, Int.reduceMod, Nat.reduceLT, Nat.reduceLeDiff, Nat.reduceMul, Nat.reduceSub, Int.reduceToNat, go_sem, Nat.le_refl, Int.toNat_natCast, Int.toNat_zero, Int.toNat_one, Tryd.results33]
end Go.Proofs.YtegehnojbfedlaaDoor
