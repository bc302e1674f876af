/-
  Chapter 12: weighing: what it comes to; the document's Weigh, the program's.
-/
import Derived.Test.YtmenmfibpbpblaaE5
open Go Go.Proofs Go.Pw Go.RowKit
namespace Go.Proofs.Ytmenmfibpbpblaa
set_option maxRecDepth 4000
set_option linter.unusedVariables false
set_option linter.unusedSimpArgs false
def sumT (l : List Int) (i : Nat) : Int := (l.take i).sum
theorem sumT_zero (l : List Int) : sumT l 0 = 0 := by simp [sumT]
theorem sumT_succ {l : List Int} {i : Nat} (h : i < l.length) : sumT l (i + 1) = sumT l i + l.getD i 0 := by
  unfold sumT
  rw [List.take_add_one, List.sum_append, List.getElem?_eq_getElem h, List.getD_eq_getElem?_getD, List.getElem?_eq_getElem h]
  simp
/-- The first so many are weights. -/
def okT (l : List Int) (i : Nat) : Prop := ∀ j, j < i → 1 ≤ l.getD j 0 ∧ l.getD j 0 ≤ 1000
theorem okT_succ {l : List Int} {i : Nat} (h : okT l i) (k : 1 ≤ l.getD i 0 ∧ l.getD i 0 ≤ 1000) : okT l (i + 1) := fun j hj => by
  by_cases e : j = i
  · subst e; exact k
  · exact h j (by omega)
theorem sumT_range {l : List Int} : ∀ {i : Nat}, i ≤ l.length → okT l i → (i : Int) ≤ sumT l i ∧ sumT l i ≤ 1000 * i
  | 0, _, _ => by simp [sumT_zero]
  | i + 1, h, k => by
    have ih := sumT_range (i := i) (by omega) (fun j hj => k j (by omega))
    have := k i (by omega)
    rw [sumT_succ (by omega)]
    omega
/-- Weights that may be. -/
def WOk (l : List Int) : Prop := okT l l.length ∧ l.length ≤ 64
instance (l : List Int) : Decidable (okT l l.length) := by unfold okT; infer_instance
instance (l : List Int) : Decidable (WOk l) := by unfold WOk; infer_instance
def wCode (l : List Int) : Int := if l.length = 0 then 20 else if WOk l then 0 else 8
theorem wCode_bad {l : List Int} {i : Nat} (hi : i < l.length) (h : ¬ (1 ≤ l.getD i 0 ∧ l.getD i 0 ≤ 1000) ∨ 64 < l.length) : wCode l = 8 := by
  rw [wCode, if_neg (by omega), if_neg]
  rintro ⟨h1, h2⟩
  rcases h with h | h
  · exact h (h1 i hi)
  · omega
theorem wCode_nil {l : List Int} (h : l.length = 0) : wCode l = 20 := by rw [wCode, if_pos h]
theorem wCode_good {l : List Int} (h : 0 < l.length) (k : okT l l.length) (k2 : l.length ≤ 64) : wCode l = 0 := by rw [wCode, if_neg (by omega), if_pos ⟨k, k2⟩]
/-- The place that a number falls into. -/
def wFind : List Int → Int → Int → Int
  | [], _, _ => 0
  | w :: r, n, k => if n < w then k else wFind r (n - w) (k + 1)
def wAt (l : List Int) (n : Int) : Int := if wCode l = 0 then wFind l n 0 else 0
theorem drop_consI {l : List Int} {i : Nat} (h : i < l.length) : l.drop i = l.getD i 0 :: l.drop (i + 1) := by
  rw [List.drop_eq_getElem_cons h, List.getD_eq_getElem?_getD, List.getElem?_eq_getElem h]; rfl
theorem wFind_lt {l : List Int} {i : Nat} {n : Int} (h : i < l.length) (k : n < l.getD i 0) (m : Int) : wFind (l.drop i) n m = m := by rw [drop_consI h, wFind, if_pos k]
theorem wFind_ge {l : List Int} {i : Nat} {n : Int} (h : i < l.length) (k : ¬ n < l.getD i 0) (m : Int) : wFind (l.drop i) n m = wFind (l.drop (i + 1)) (n - l.getD i 0) (m + 1) := by rw [drop_consI h, wFind, if_neg k]
set_option maxHeartbeats 2000000 in
/-- The document's. -/
theorem rweigh_ok (l : List Int) (x : List (List PV)) (m : Bool) (z z' u u' n : Int) (hl : l.length ≤ 1000) (hn : wCode l = 0 → 0 ≤ n ∧ n ≤ 1000000)
    (c : Ok Try.prog 14 [.agg [.sl x, vB m, vU z, vI u], vI (sumT l l.length)] (.tup [.agg [.sl x, vB m, vU z', vI u'], vI n])) :
    Ok Try.prog 17 [.agg [.sl x, vB m, vU z, vI u], .sl (encI l)] (.tup [.agg (if wCode l = 0 then [.sl x, vB m, vU z', vI u'] else [.sl x, vB m, vU z, vI u]), vI (wAt l n), vI (wCode l)]) := by
  refine Ok.of_pwp (by kernel_rfl) Try.func17 rfl (by kernel_rfl) (by kernel_rfl) ?_
  by_cases h0 : l.length = 0
  · have hc := wCode_nil h0
    simp (implicitDefEqProofs := false) (disch := omega) only [go_sem, reduceCtorEq, Nat.reduceEqDiff, Nat.reduceBEq, ↓reduceIte, Nat.reduceGT, Nat.reduceAdd, Int.reduceEq, Int.reduceLT, Int.reduceLE, Int.reduceNeg, Int.reduceAdd, Int.reduceSub, Int.reduceMul, Int.reduceDiv, Int.reduceMod, Nat.reduceLT, Nat.reduceLeDiff, Nat.reduceMul, Nat.reduceSub, Int.reduceToNat, go_sem, Nat.le_refl, encI_len, ↓ix_enc, Int.toNat_natCast, Try.results17]
    rw [wAt, hc]
    rfl
  have h0' : ¬ ((l.length : Int) = 0) := by omega
  simp (implicitDefEqProofs := false) (disch := omega) only [go_sem, reduceCtorEq, Nat.reduceEqDiff, Nat.reduceBEq, ↓reduceIte, Nat.reduceGT, Nat.reduceAdd, Int.reduceEq, Int.reduceLT, Int.reduceLE, Int.reduceNeg, Int.reduceAdd, Int.reduceSub, Int.reduceMul, Int.reduceDiv, Int.reduceMod, Nat.reduceLT, Nat.reduceLeDiff, Nat.reduceMul, Nat.reduceSub, Int.reduceToNat, go_sem, Nat.le_refl, encI_len, ↓ix_enc, Int.toNat_natCast, Try.results17]
  refine p_loop (ι := { i : Nat // i ≤ l.length ∧ okT l i ∧ i ≤ 64 }) (fun i => ⟨[(18, vI i.1), (17, vI l.length), (7, vI (sumT l i.1)), (4, .ptr 1 0), (2, .ptr 0 0), (1, .sl (encI l))], [(0, .box 33 [.sl x, vB m, vU z, vI u]), (1, .box 33 [vNil, vB false, vU 0, vI 0])], [], 2, 0⟩) (fun i => l.length - i.1) ⟨0, Nat.zero_le _, (fun j hj => by omega), by decide⟩ ?_ ?_
  · refine ⟨?_, ?_, ?_, ?_, ?_, ?_, ?_⟩ <;> simp only [mem_cons_, mem_nil_, lkp, hold_eq, b_some, frz_self, frz1_self, frzL_self, frzO_self, frzO_box, frzO_iter, frzL_cons, frzL_nil, frz_agg, frz1_row, frz1_nil, frz1_val, frz1_sl, frz1_rr, frz1_ptr, frz1_ms, frz_val, frz_sl, frz_row, frz_ptr, frz_ms, frz_fp, frz_tup, frz_fn, PV.lt, PV.ltL, PObj.lt, decide_true, Bool.true_and, Bool.and_true, Bool.and_self, Nat.reduceLT, Nat.reduceLeDiff, Nat.reduceEqDiff, if_true, if_false, ↓reduceIte, and_true, true_and, Nat.zero_le, reduceCtorEq, eq_self, decide_eq_true_eq, Int.natCast_zero, sumT_zero] <;> try first | omega | ((repeat' (first | exact And.intro rfl (by omega) | (refine And.intro ?_ ?_))) <;> first | rfl | omega | (congr 3; omega) | (congr 2; omega))
  · rintro ⟨i, h1, h2, h3⟩
    simp only
    have hs := sumT_range h1 h2
    by_cases hi : i < l.length
    · by_cases k1 : l.getD i 0 < 1
      · have hc := wCode_bad hi (.inl (by omega))
        simp (implicitDefEqProofs := false) (disch := omega) only [go_sem, reduceCtorEq, Nat.reduceEqDiff, Nat.reduceBEq, ↓reduceIte, Nat.reduceGT, Nat.reduceAdd, Int.reduceEq, Int.reduceLT, Int.reduceLE, Int.reduceNeg, Int.reduceAdd, Int.reduceSub, Int.reduceMul, Int.reduceDiv, Int.reduceMod, Nat.reduceLT, Nat.reduceLeDiff, Nat.reduceMul, Nat.reduceSub, Int.reduceToNat, go_sem, Nat.le_refl, encI_len, ↓ix_enc, Int.toNat_natCast, Try.results17]
        rw [wAt, hc]
        rfl
      by_cases k2 : 1000 < l.getD i 0
      · have hc := wCode_bad hi (.inl (by omega))
        simp (implicitDefEqProofs := false) (disch := omega) only [go_sem, reduceCtorEq, Nat.reduceEqDiff, Nat.reduceBEq, ↓reduceIte, Nat.reduceGT, Nat.reduceAdd, Int.reduceEq, Int.reduceLT, Int.reduceLE, Int.reduceNeg, Int.reduceAdd, Int.reduceSub, Int.reduceMul, Int.reduceDiv, Int.reduceMod, Nat.reduceLT, Nat.reduceLeDiff, Nat.reduceMul, Nat.reduceSub, Int.reduceToNat, go_sem, Nat.le_refl, encI_len, ↓ix_enc, Int.toNat_natCast, Try.results17]
        rw [wAt, hc]
        rfl
      by_cases k3 : 64 ≤ i
      · have hc := wCode_bad hi (.inr (by omega))
        have k3' : (64 : Int) ≤ i := by omega
        simp (implicitDefEqProofs := false) (disch := omega) only [go_sem, reduceCtorEq, Nat.reduceEqDiff, Nat.reduceBEq, ↓reduceIte, Nat.reduceGT, Nat.reduceAdd, Int.reduceEq, Int.reduceLT, Int.reduceLE, Int.reduceNeg, Int.reduceAdd, Int.reduceSub, Int.reduceMul, Int.reduceDiv, Int.reduceMod, Nat.reduceLT, Nat.reduceLeDiff, Nat.reduceMul, Nat.reduceSub, Int.reduceToNat, go_sem, Nat.le_refl, encI_len, ↓ix_enc, Int.toNat_natCast, Try.results17]
        rw [wAt, hc]
        rfl
      have k3' : ¬ (64 : Int) ≤ i := by omega
      simp (implicitDefEqProofs := false) (disch := omega) only [go_sem, reduceCtorEq, Nat.reduceEqDiff, Nat.reduceBEq, ↓reduceIte, Nat.reduceGT, Nat.reduceAdd, Int.reduceEq, Int.reduceLT, Int.reduceLE, Int.reduceNeg, Int.reduceAdd, Int.reduceSub, Int.reduceMul, Int.reduceDiv, Int.reduceMod, Nat.reduceLT, Nat.reduceLeDiff, Nat.reduceMul, Nat.reduceSub, Int.reduceToNat, go_sem, Nat.le_refl, encI_len, ↓ix_enc, Int.toNat_natCast, Try.results17]
      refine ⟨⟨i + 1, hi, okT_succ h2 ⟨by omega, by omega⟩, by omega⟩, by simp only; omega, ?_⟩
      simp only [sumT_succ hi]
      refine ⟨?_, ?_, ?_, ?_, ?_, ?_, ?_⟩ <;> simp only [mem_cons_, mem_nil_, lkp, hold_eq, b_some, frz_self, frz1_self, frzL_self, frzO_self, frzO_box, frzO_iter, frzL_cons, frzL_nil, frz_agg, frz1_row, frz1_nil, frz1_val, frz1_sl, frz1_rr, frz1_ptr, frz1_ms, frz_val, frz_sl, frz_row, frz_ptr, frz_ms, frz_fp, frz_tup, frz_fn, PV.lt, PV.ltL, PObj.lt, decide_true, Bool.true_and, Bool.and_true, Bool.and_self, Nat.reduceLT, Nat.reduceLeDiff, Nat.reduceEqDiff, if_true, if_false, ↓reduceIte, and_true, true_and, Nat.zero_le, reduceCtorEq, eq_self, decide_eq_true_eq, Int.natCast_add, Int.natCast_one] <;> try first | omega | ((repeat' (first | exact And.intro rfl (by omega) | (refine And.intro ?_ ?_))) <;> first | rfl | omega | (congr 3; omega) | (congr 2; omega))
    · have hi' : i = l.length := by omega
      subst hi'
      have hc := wCode_good (by omega) h2 h3
      simp (implicitDefEqProofs := false) (disch := omega) only [go_sem, reduceCtorEq, Nat.reduceEqDiff, Nat.reduceBEq, ↓reduceIte, Nat.reduceGT, Nat.reduceAdd, Int.reduceEq, Int.reduceLT, Int.reduceLE, Int.reduceNeg, Int.reduceAdd, Int.reduceSub, Int.reduceMul, Int.reduceDiv, Int.reduceMod, Nat.reduceLT, Nat.reduceLeDiff, Nat.reduceMul, Nat.reduceSub, Int.reduceToNat, go_sem, Nat.le_refl, encI_len, ↓ix_enc, Int.toNat_natCast, Try.results17]
      with_reducible refine CallOk.of c rfl ?_
      simp (implicitDefEqProofs := false) (disch := omega) only [go_sem, reduceCtorEq, Nat.reduceEqDiff, Nat.reduceBEq, ↓reduceIte, Nat.reduceGT, Nat.reduceAdd, Int.reduceEq, Int.reduceLT, Int.reduceLE, Int.reduceNeg, Int.reduceAdd, Int.reduceSub, Int.reduceMul, Int.reduceDiv, Int.reduceMod, Nat.reduceLT, Nat.reduceLeDiff, Nat.reduceMul, Nat.reduceSub, Int.reduceToNat, go_sem, Nat.le_refl, encI_len, ↓ix_enc, Int.toNat_natCast, Try.results17]
      have hw : wAt l n = wFind (l.drop 0) n 0 := by rw [wAt, if_pos hc]; rfl
      have hn := hn hc
      refine p_loop (ι := { p : Nat × Int // p.1 ≤ l.length ∧ p.2 ≤ 1000000 ∧ -1000000 ≤ p.2 ∧ wFind (l.drop p.1) p.2 p.1 = wAt l n ∧ p.2 = n - sumT l p.1 }) (fun p => ⟨[(53, vI p.1.1), (52, vI l.length), (10, vI p.1.2), (9, .ptr 9 0), (4, .ptr 1 0), (1, .sl (encI l))], [(9, .box 33 [.sl x, vB m, vU z', vI u']), (1, .box 33 [vNil, vB false, vU 0, vI 0])], [], 10, 0⟩) (fun p => l.length - p.1.1) ⟨(0, n), Nat.zero_le _, hn.2, by simp only; omega, hw.symm, by rw [sumT_zero]; simp⟩ ?_ ?_
      · refine ⟨?_, ?_, ?_, ?_, ?_, ?_, ?_⟩ <;> simp only [mem_cons_, mem_nil_, lkp, hold_eq, b_some, frz_self, frz1_self, frzL_self, frzO_self, frzO_box, frzO_iter, frzL_cons, frzL_nil, frz_agg, frz1_row, frz1_nil, frz1_val, frz1_sl, frz1_rr, frz1_ptr, frz1_ms, frz_val, frz_sl, frz_row, frz_ptr, frz_ms, frz_fp, frz_tup, frz_fn, PV.lt, PV.ltL, PObj.lt, decide_true, Bool.true_and, Bool.and_true, Bool.and_self, Nat.reduceLT, Nat.reduceLeDiff, Nat.reduceEqDiff, if_true, if_false, ↓reduceIte, and_true, true_and, Nat.zero_le, reduceCtorEq, eq_self, decide_eq_true_eq, Int.natCast_zero] <;> try first | omega | ((repeat' (first | exact And.intro rfl (by omega) | (refine And.intro ?_ ?_))) <;> first | rfl | omega | (congr 3; omega) | (congr 2; omega))
      · rintro ⟨⟨j, r⟩, g1, g2, g3, g4, g5⟩
        simp only at g1 g2 g3 g4 g5 ⊢
        by_cases hj : j < l.length
        · have k := h2 j hj
          by_cases hr : r < l.getD j 0
          · simp (implicitDefEqProofs := false) (disch := omega) only [go_sem, reduceCtorEq, Nat.reduceEqDiff, Nat.reduceBEq, ↓reduceIte, Nat.reduceGT, Nat.reduceAdd, Int.reduceEq, Int.reduceLT, Int.reduceLE, Int.reduceNeg, Int.reduceAdd, Int.reduceSub, Int.reduceMul, Int.reduceDiv, Int.reduceMod, Nat.reduceLT, Nat.reduceLeDiff, Nat.reduceMul, Nat.reduceSub, Int.reduceToNat, go_sem, Nat.le_refl, encI_len, ↓ix_enc, Int.toNat_natCast, Try.results17]
            rw [wFind_lt hj hr] at g4
            rw [hc, ← g4]
            rfl
          · rw [wFind_ge hj hr] at g4
            have hs2 := sumT_range (show j + 1 ≤ l.length by omega) (fun i hi => h2 i (by omega))
            rw [sumT_succ hj] at hs2
            simp (implicitDefEqProofs := false) (disch := omega) only [go_sem, reduceCtorEq, Nat.reduceEqDiff, Nat.reduceBEq, ↓reduceIte, Nat.reduceGT, Nat.reduceAdd, Int.reduceEq, Int.reduceLT, Int.reduceLE, Int.reduceNeg, Int.reduceAdd, Int.reduceSub, Int.reduceMul, Int.reduceDiv, Int.reduceMod, Nat.reduceLT, Nat.reduceLeDiff, Nat.reduceMul, Nat.reduceSub, Int.reduceToNat, go_sem, Nat.le_refl, encI_len, ↓ix_enc, Int.toNat_natCast, Try.results17]
            refine ⟨⟨(j + 1, r - l.getD j 0), hj, by simp only; omega, by simp only; omega, by simpa using g4, by rw [sumT_succ hj]; simp only; omega⟩, by simp only; omega, ?_⟩
            refine ⟨?_, ?_, ?_, ?_, ?_, ?_, ?_⟩ <;> simp only [mem_cons_, mem_nil_, lkp, hold_eq, b_some, frz_self, frz1_self, frzL_self, frzO_self, frzO_box, frzO_iter, frzL_cons, frzL_nil, frz_agg, frz1_row, frz1_nil, frz1_val, frz1_sl, frz1_rr, frz1_ptr, frz1_ms, frz_val, frz_sl, frz_row, frz_ptr, frz_ms, frz_fp, frz_tup, frz_fn, PV.lt, PV.ltL, PObj.lt, decide_true, Bool.true_and, Bool.and_true, Bool.and_self, Nat.reduceLT, Nat.reduceLeDiff, Nat.reduceEqDiff, if_true, if_false, ↓reduceIte, and_true, true_and, Nat.zero_le, reduceCtorEq, eq_self, decide_eq_true_eq, Int.natCast_add, Int.natCast_one] <;> try first | omega | ((repeat' (first | exact And.intro rfl (by omega) | (refine And.intro ?_ ?_))) <;> first | rfl | omega | (congr 3; omega) | (congr 2; omega))
        · have hj' : j = l.length := by omega
          subst hj'
          rw [List.drop_length, wFind] at g4
          simp (implicitDefEqProofs := false) (disch := omega) only [go_sem, reduceCtorEq, Nat.reduceEqDiff, Nat.reduceBEq, ↓reduceIte, Nat.reduceGT, Nat.reduceAdd, Int.reduceEq, Int.reduceLT, Int.reduceLE, Int.reduceNeg, Int.reduceAdd, Int.reduceSub, Int.reduceMul, Int.reduceDiv, Int.reduceMod, Nat.reduceLT, Nat.reduceLeDiff, Nat.reduceMul, Nat.reduceSub, Int.reduceToNat, go_sem, Nat.le_refl, encI_len, ↓ix_enc, Int.toNat_natCast, Try.results17]
          rw [hc, ← g4]
          rfl
theorem rweigh_ok2 (l : List Int) (x : List (List PV)) (m : Bool) (z z' u u' n : Int) (hl : l.length ≤ 1000) (hn : wCode l = 0 → 0 ≤ n ∧ n ≤ 1000000)
    (c : Ok Try.prog 14 [.agg [.sl x, vB m, vU z, vI u], vI (sumT l l.length)] (.tup [.agg [.sl x, vB m, vU z', vI u'], vI n])) :
    Ok Try.prog 17 [.agg [.sl x, vB m, vU z, vI u], .sl (encI l)] (.tup [.agg [.sl x, vB m, vU (if wCode l = 0 then z' else z), vI (if wCode l = 0 then u' else u)], vI (wAt l n), vI (wCode l)]) := by
  have h := rweigh_ok l x m z z' u u' n hl hn c
  by_cases k : wCode l = 0
  · rw [if_pos k] at h; rw [if_pos k, if_pos k]; exact h
  · rw [if_neg k] at h; rw [if_neg k, if_neg k]; exact h
theorem sum_good {l : List Int} (h : wCode l = 0) : 1 ≤ sumT l l.length ∧ sumT l l.length ≤ 64000 := by
  unfold wCode at h
  split at h
  · omega
  · split at h
    · rename_i h0 k
      have := sumT_range (Nat.le_refl _) k.1
      have := k.2
      omega
    · omega
end Go.Proofs.Ytmenmfibpbpblaa
