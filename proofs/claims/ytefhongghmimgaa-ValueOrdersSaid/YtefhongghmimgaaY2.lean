/-
  The order of values (the document's), and the law of orders.
-/
import Derived.Test.YtefhongghmimgaaVT
import Derived.Test.YtefhongghmimgaaY1
open Go Go.Proofs Go.Pw Go.RowKit
namespace Go.Proofs.Ytefhongghmimgaa
set_option maxRecDepth 4000
set_option linter.unusedVariables false
set_option linter.unusedSimpArgs false
theorem lexI_ne {a b : Int} (h : a ≠ 0) : lexI a b = a := by unfold lexI; rw [if_neg h]
theorem lexI_z (b : Int) : lexI 0 b = b := rfl
theorem cmpI_self (a : Int) : cmpI a a = 0 := by unfold cmpI; rw [if_neg (by omega), if_neg (by omega)]
theorem cmpI_neg_iff (a b : Int) : cmpI a b < 0 ↔ a < b := by
  unfold cmpI
  split
  · omega
  · split <;> omega
theorem cmpI_dec (a b : Int) : decide (cmpI a b < 0) = decide (a < b) := decide_eq_decide.2 (cmpI_neg_iff a b)
theorem cmpI_ne {a b : Int} (h : a ≠ b) : cmpI a b ≠ 0 := fun e => h (cmpI_zero e)
theorem less_k {a b : V} (h : a.kind ≠ b.kind) : decide (cmpV a b < 0) = decide (a.kind < b.kind) := by
  rw [cmpV_eq, lexI_ne (cmpI_ne h)]
  exact decide_eq_decide.2 (cmpI_neg_iff _ _)
theorem less_b {a b : V} (h : a.kind = b.kind) (hb : (a.b == b.b) = false) : decide (cmpV a b < 0) = b.b := by
  rw [cmpV_eq, h, cmpI_self, lexI_z]
  cases ha : a.b <;> cases hb' : b.b <;> rw [ha, hb'] at hb <;> first | (simp at hb; done) | rfl
theorem less_n {a b : V} (h : a.kind = b.kind) (hb : (a.b == b.b) = true) (hn : a.n ≠ b.n) : decide (cmpV a b < 0) = decide (a.n < b.n) := by
  rw [cmpV_eq, h, cmpI_self, lexI_z, show a.b = b.b by simpa using hb, cmpI_self, lexI_z, lexI_ne (cmpI_ne hn)]
  exact decide_eq_decide.2 (cmpI_neg_iff _ _)
theorem cmpT_neg_iff (a b : ByteArray) : decide (cmpT a b < 0) = ltT a b := by
  rcases ltT_tri a b with h | h | h
  · rw [cmpT_lt h, h]; rfl
  · rw [h, cmpT_self, ltT_irr]; rfl
  · rw [cmpT_gt h, ltT_asymm h]; rfl
theorem less_s {a b : V} (h : a.kind = b.kind) (hb : (a.b == b.b) = true) (hn : a.n = b.n) (hs : ¬ a.s = b.s) : decide (cmpV a b < 0) = ltT a.s b.s := by
  rw [cmpV_eq, h, cmpI_self, lexI_z, show a.b = b.b by simpa using hb, cmpI_self, lexI_z, hn, cmpI_self, lexI_z, lexI_ne (fun e => hs (cmpT_zero e))]
  exact cmpT_neg_iff _ _
theorem less_r {a b : V} (h : a.kind = b.kind) (hb : (a.b == b.b) = true) (hn : a.n = b.n) (hs : a.s = b.s) : cmpV a b = cmpL a.kind a.items a.keys b.items b.keys := by
  rw [cmpV_eq, h, cmpI_self, lexI_z, show a.b = b.b by simpa using hb, cmpI_self, lexI_z, hn, cmpI_self, lexI_z, hs, cmpT_self, lexI_z]
set_option maxHeartbeats 16000000 in
theorem less_ok : ∀ a, szV a ≤ 1000000 → goodB a = true → ∀ b, szV b ≤ 1000000 → goodB b = true → Ok Try.prog 32 [.agg (cellsV a), .agg (cellsV b)] (vB (decide (cmpV a b < 0))) := by
  refine V.ind fun a ih ha hga b hb hgb => ?_
  obtain ⟨hl, hl2, hx, _⟩ := V.small ha
  obtain ⟨hl', hl2', hx', _⟩ := V.small hb
  obtain ⟨ga1, ga2, ga3⟩ := good_parts hga
  obtain ⟨gb1, gb2, gb3⟩ := good_parts hgb
  have hit : ∀ i, i < a.items.length → i < b.items.length → Ok Try.prog 32 [.agg (cellsV (a.items.getD i default)), .agg (cellsV (b.items.getD i default))] (vB (decide (cmpV (a.items.getD i default) (b.items.getD i default) < 0))) :=
    fun i hi hj => ih _ (getD_mem hi) (hx _ (getD_mem hi)) (ga3 _ (getD_mem hi)) _ (hx' _ (getD_mem hj)) (gb3 _ (getD_mem hj))
  have his : ∀ i, i < a.items.length → i < b.items.length → Ok Try.prog 16 [.agg (cellsV (a.items.getD i default)), .agg (cellsV (b.items.getD i default))] (vB (sameV (a.items.getD i default) (b.items.getD i default))) :=
    fun i hi hj => same_ok _ (hx _ (getD_mem hi)) _ (hx' _ (getD_mem hj))
  refine Ok.of_pwp (by kernel_rfl) Try.func32 rfl (by kernel_rfl) (by kernel_rfl) ?_
  obtain ⟨rr, hr⟩ : ∃ rr, decide (cmpV a b < 0) = rr := ⟨_, rfl⟩
  rw [hr]
  by_cases h1 : a.kind = b.kind
  rotate_left
  · rw [less_k h1] at hr
    rw [← hr]
    simp (implicitDefEqProofs := false) (disch := omega) only [go_sem, reduceCtorEq, Nat.reduceEqDiff, Nat.reduceBEq, ↓reduceIte, Nat.reduceGT, Nat.reduceAdd, Int.reduceEq, Int.reduceLT, Int.reduceLE, Int.reduceNeg, Int.reduceAdd, Int.reduceSub, Int.reduceMul, Int.reduceDiv, Int.reduceMod, Nat.reduceLT, Nat.reduceLeDiff, Nat.reduceMul, Nat.reduceSub, Int.reduceToNat, go_sem, Nat.le_refl, cellsV, Try.results32]
  cases h2 : (a.b == b.b) with
  | false =>
    rw [less_b h1 h2] at hr
    rw [← hr]
    simp (implicitDefEqProofs := false) (disch := omega) only [go_sem, reduceCtorEq, Nat.reduceEqDiff, Nat.reduceBEq, ↓reduceIte, Nat.reduceGT, Nat.reduceAdd, Int.reduceEq, Int.reduceLT, Int.reduceLE, Int.reduceNeg, Int.reduceAdd, Int.reduceSub, Int.reduceMul, Int.reduceDiv, Int.reduceMod, Nat.reduceLT, Nat.reduceLeDiff, Nat.reduceMul, Nat.reduceSub, Int.reduceToNat, go_sem, Nat.le_refl, cellsV, h2, Try.results32]
  | true =>
  by_cases h3 : a.n = b.n
  rotate_left
  · rw [less_n h1 h2 h3] at hr
    rw [← hr]
    simp (implicitDefEqProofs := false) (disch := omega) only [go_sem, reduceCtorEq, Nat.reduceEqDiff, Nat.reduceBEq, ↓reduceIte, Nat.reduceGT, Nat.reduceAdd, Int.reduceEq, Int.reduceLT, Int.reduceLE, Int.reduceNeg, Int.reduceAdd, Int.reduceSub, Int.reduceMul, Int.reduceDiv, Int.reduceMod, Nat.reduceLT, Nat.reduceLeDiff, Nat.reduceMul, Nat.reduceSub, Int.reduceToNat, go_sem, Nat.le_refl, cellsV, h2, Try.results32]
  by_cases h4 : a.s = b.s
  rotate_left
  · rw [less_s h1 h2 h3 h4] at hr
    rw [← hr]
    simp (implicitDefEqProofs := false) (disch := omega) only [go_sem, reduceCtorEq, Nat.reduceEqDiff, Nat.reduceBEq, ↓reduceIte, Nat.reduceGT, Nat.reduceAdd, Int.reduceEq, Int.reduceLT, Int.reduceLE, Int.reduceNeg, Int.reduceAdd, Int.reduceSub, Int.reduceMul, Int.reduceDiv, Int.reduceMod, Nat.reduceLT, Nat.reduceLeDiff, Nat.reduceMul, Nat.reduceSub, Int.reduceToNat, go_sem, Nat.le_refl, cellsV, h2, h4, Try.results32]
    rfl
  rw [less_r h1 h2 h3 h4] at hr
  have h4' : decide (a.s = b.s) = true := decide_eq_true h4
  simp (implicitDefEqProofs := false) (disch := omega) only [go_sem, reduceCtorEq, Nat.reduceEqDiff, Nat.reduceBEq, ↓reduceIte, Nat.reduceGT, Nat.reduceAdd, Int.reduceEq, Int.reduceLT, Int.reduceLE, Int.reduceNeg, Int.reduceAdd, Int.reduceSub, Int.reduceMul, Int.reduceDiv, Int.reduceMod, Nat.reduceLT, Nat.reduceLeDiff, Nat.reduceMul, Nat.reduceSub, Int.reduceToNat, go_sem, Nat.le_refl, cellsV, h2, h4', Try.results32]
  refine p_loop (ι := { i : Nat // i ≤ min a.items.length b.items.length ∧ rr = decide (cmpL a.kind (a.items.drop i) (a.keys.drop i) (b.items.drop i) (b.keys.drop i) < 0) })
    (fun p => ⟨[(5, vI p.1), (3, .ptr 1 0), (2, .ptr 0 0)], [(1, .box 27 (cellsV b)), (0, .box 27 (cellsV a))], [], 2, 0⟩) (fun p => a.items.length - p.1) ⟨0, Nat.zero_le _, hr.symm⟩ ?_ ?_
  · refine ⟨?_, ?_, ?_, ?_, ?_, ?_, ?_⟩ <;> simp only [mem_cons_, mem_nil_, lkp, hold_eq, b_some, frz_self, frz1_self, frzL_self, frzO_self, frzO_box, frzO_iter, frzL_cons, frzL_nil, frz_agg, frz1_row, frz1_nil, frz1_val, frz1_sl, frz1_rr, frz1_ptr, frz1_ms, frz_val, frz_sl, frz_row, frz_ptr, frz_ms, frz_fp, frz_tup, frz_fn, PV.lt, PV.ltL, PObj.lt, decide_true, Bool.true_and, Bool.and_true, Bool.and_self, Nat.reduceLT, Nat.reduceLeDiff, Nat.reduceEqDiff, if_true, if_false, ↓reduceIte, and_true, true_and, Nat.zero_le, reduceCtorEq, eq_self, decide_eq_true_eq, Int.natCast_zero] <;> try first | omega | ((repeat' (first | exact And.intro rfl (by omega) | (refine And.intro ?_ ?_))) <;> first | rfl | omega | (congr 3; omega) | (congr 2; omega))
  · rintro ⟨i, g1, g2⟩
    simp only at g1 g2 ⊢
    by_cases hi : i < a.items.length
    rotate_left
    · rw [cmpL_end (by omega), cmpI_dec] at g2
      rw [g2]
      simp (implicitDefEqProofs := false) (disch := omega) only [go_sem, reduceCtorEq, Nat.reduceEqDiff, Nat.reduceBEq, ↓reduceIte, Nat.reduceGT, Nat.reduceAdd, Int.reduceEq, Int.reduceLT, Int.reduceLE, Int.reduceNeg, Int.reduceAdd, Int.reduceSub, Int.reduceMul, Int.reduceDiv, Int.reduceMod, Nat.reduceLT, Nat.reduceLeDiff, Nat.reduceMul, Nat.reduceSub, Int.reduceToNat, go_sem, Nat.le_refl, cellsV, Try.results32]
    by_cases hj : i < b.items.length
    rotate_left
    · rw [cmpL_end (by omega), cmpI_dec] at g2
      rw [g2]
      simp (implicitDefEqProofs := false) (disch := omega) only [go_sem, reduceCtorEq, Nat.reduceEqDiff, Nat.reduceBEq, ↓reduceIte, Nat.reduceGT, Nat.reduceAdd, Int.reduceEq, Int.reduceLT, Int.reduceLE, Int.reduceNeg, Int.reduceAdd, Int.reduceSub, Int.reduceMul, Int.reduceDiv, Int.reduceMod, Nat.reduceLT, Nat.reduceLeDiff, Nat.reduceMul, Nat.reduceSub, Int.reduceToNat, go_sem, Nat.le_refl, cellsV, Try.results32]
    rw [cmpL_step hi hj] at g2
    have ho := hit i hi hj
    have hs := his i hi hj
    have fin : rr = decide (lexI (cmpV (a.items.getD i default) (b.items.getD i default)) (cmpL a.kind (a.items.drop (i + 1)) (a.keys.drop (i + 1)) (b.items.drop (i + 1)) (b.keys.drop (i + 1))) < 0) →
        (cmpV (a.items.getD i default) (b.items.getD i default) < 0 ∧ rr = true) ∨ (0 < cmpV (a.items.getD i default) (b.items.getD i default) ∧ sameV (a.items.getD i default) (b.items.getD i default) = false ∧ rr = false) ∨
        (cmpV (a.items.getD i default) (b.items.getD i default) = 0 ∧ sameV (a.items.getD i default) (b.items.getD i default) = true ∧ rr = decide (cmpL a.kind (a.items.drop (i + 1)) (a.keys.drop (i + 1)) (b.items.drop (i + 1)) (b.keys.drop (i + 1)) < 0)) := by
      intro h
      rcases Int.lt_trichotomy (cmpV (a.items.getD i default) (b.items.getD i default)) 0 with hc | hc | hc
      · rw [lexI_ne (by omega), decide_eq_true hc] at h
        exact .inl ⟨hc, h⟩
      · rw [hc, lexI_z] at h
        exact .inr (.inr ⟨hc, sameV_T (cmpV_zero _ _ (ga3 _ (getD_mem hi)) (gb3 _ (getD_mem hj)) hc), h⟩)
      · rw [lexI_ne (by omega), decide_eq_false (by omega)] at h
        exact .inr (.inl ⟨hc, sameV_F (fun e => by rw [e, cmpV_self] at hc; omega), h⟩)
    by_cases h5 : a.kind = 5
    · have la := ga1 h5
      have lb := gb1 (by omega)
      rw [if_pos h5] at g2
      by_cases he : a.keys.getD i ByteArray.empty = b.keys.getD i ByteArray.empty
      · rw [he, cmpT_self, lexI_z] at g2
        rcases fin g2 with ⟨f1, f2⟩ | ⟨f1, f2, f3⟩ | ⟨f1, f2, f3⟩
        · rw [decide_eq_true f1] at ho
          rw [f2]
          simp (implicitDefEqProofs := false) (disch := omega) only [go_sem, reduceCtorEq, Nat.reduceEqDiff, Nat.reduceBEq, ↓reduceIte, Nat.reduceGT, Nat.reduceAdd, Int.reduceEq, Int.reduceLT, Int.reduceLE, Int.reduceNeg, Int.reduceAdd, Int.reduceSub, Int.reduceMul, Int.reduceDiv, Int.reduceMod, Nat.reduceLT, Nat.reduceLeDiff, Nat.reduceMul, Nat.reduceSub, Int.reduceToNat, go_sem, Nat.le_refl, cellsV, he, Try.results32]
          with_reducible refine CallOk.of ho rfl ?_
          simp (implicitDefEqProofs := false) (disch := omega) only [go_sem, reduceCtorEq, Nat.reduceEqDiff, Nat.reduceBEq, ↓reduceIte, Nat.reduceGT, Nat.reduceAdd, Int.reduceEq, Int.reduceLT, Int.reduceLE, Int.reduceNeg, Int.reduceAdd, Int.reduceSub, Int.reduceMul, Int.reduceDiv, Int.reduceMod, Nat.reduceLT, Nat.reduceLeDiff, Nat.reduceMul, Nat.reduceSub, Int.reduceToNat, go_sem, Nat.le_refl, cellsV, Try.results32]
        · rw [decide_eq_false (by omega)] at ho
          rw [f2] at hs
          rw [f3]
          simp (implicitDefEqProofs := false) (disch := omega) only [go_sem, reduceCtorEq, Nat.reduceEqDiff, Nat.reduceBEq, ↓reduceIte, Nat.reduceGT, Nat.reduceAdd, Int.reduceEq, Int.reduceLT, Int.reduceLE, Int.reduceNeg, Int.reduceAdd, Int.reduceSub, Int.reduceMul, Int.reduceDiv, Int.reduceMod, Nat.reduceLT, Nat.reduceLeDiff, Nat.reduceMul, Nat.reduceSub, Int.reduceToNat, go_sem, Nat.le_refl, cellsV, he, Try.results32]
          with_reducible refine CallOk.of ho rfl ?_
          simp (implicitDefEqProofs := false) (disch := omega) only [go_sem, reduceCtorEq, Nat.reduceEqDiff, Nat.reduceBEq, ↓reduceIte, Nat.reduceGT, Nat.reduceAdd, Int.reduceEq, Int.reduceLT, Int.reduceLE, Int.reduceNeg, Int.reduceAdd, Int.reduceSub, Int.reduceMul, Int.reduceDiv, Int.reduceMod, Nat.reduceLT, Nat.reduceLeDiff, Nat.reduceMul, Nat.reduceSub, Int.reduceToNat, go_sem, Nat.le_refl, cellsV, Try.results32]
          with_reducible refine CallOk.of hs rfl ?_
          simp (implicitDefEqProofs := false) (disch := omega) only [go_sem, reduceCtorEq, Nat.reduceEqDiff, Nat.reduceBEq, ↓reduceIte, Nat.reduceGT, Nat.reduceAdd, Int.reduceEq, Int.reduceLT, Int.reduceLE, Int.reduceNeg, Int.reduceAdd, Int.reduceSub, Int.reduceMul, Int.reduceDiv, Int.reduceMod, Nat.reduceLT, Nat.reduceLeDiff, Nat.reduceMul, Nat.reduceSub, Int.reduceToNat, go_sem, Nat.le_refl, cellsV, Try.results32]
        · rw [decide_eq_false (by omega)] at ho
          rw [f2] at hs
          simp (implicitDefEqProofs := false) (disch := omega) only [go_sem, reduceCtorEq, Nat.reduceEqDiff, Nat.reduceBEq, ↓reduceIte, Nat.reduceGT, Nat.reduceAdd, Int.reduceEq, Int.reduceLT, Int.reduceLE, Int.reduceNeg, Int.reduceAdd, Int.reduceSub, Int.reduceMul, Int.reduceDiv, Int.reduceMod, Nat.reduceLT, Nat.reduceLeDiff, Nat.reduceMul, Nat.reduceSub, Int.reduceToNat, go_sem, Nat.le_refl, cellsV, he, Try.results32]
          with_reducible refine CallOk.of ho rfl ?_
          simp (implicitDefEqProofs := false) (disch := omega) only [go_sem, reduceCtorEq, Nat.reduceEqDiff, Nat.reduceBEq, ↓reduceIte, Nat.reduceGT, Nat.reduceAdd, Int.reduceEq, Int.reduceLT, Int.reduceLE, Int.reduceNeg, Int.reduceAdd, Int.reduceSub, Int.reduceMul, Int.reduceDiv, Int.reduceMod, Nat.reduceLT, Nat.reduceLeDiff, Nat.reduceMul, Nat.reduceSub, Int.reduceToNat, go_sem, Nat.le_refl, cellsV, Try.results32]
          with_reducible refine CallOk.of hs rfl ?_
          simp (implicitDefEqProofs := false) (disch := omega) only [go_sem, reduceCtorEq, Nat.reduceEqDiff, Nat.reduceBEq, ↓reduceIte, Nat.reduceGT, Nat.reduceAdd, Int.reduceEq, Int.reduceLT, Int.reduceLE, Int.reduceNeg, Int.reduceAdd, Int.reduceSub, Int.reduceMul, Int.reduceDiv, Int.reduceMod, Nat.reduceLT, Nat.reduceLeDiff, Nat.reduceMul, Nat.reduceSub, Int.reduceToNat, go_sem, Nat.le_refl, cellsV, Try.results32]
          refine ⟨⟨i + 1, by omega, f3⟩, by simp only; omega, ?_⟩
          refine ⟨?_, ?_, ?_, ?_, ?_, ?_, ?_⟩ <;> simp only [mem_cons_, mem_nil_, lkp, hold_eq, b_some, frz_self, frz1_self, frzL_self, frzO_self, frzO_box, frzO_iter, frzL_cons, frzL_nil, frz_agg, frz1_row, frz1_nil, frz1_val, frz1_sl, frz1_rr, frz1_ptr, frz1_ms, frz_val, frz_sl, frz_row, frz_ptr, frz_ms, frz_fp, frz_tup, frz_fn, PV.lt, PV.ltL, PObj.lt, decide_true, Bool.true_and, Bool.and_true, Bool.and_self, Nat.reduceLT, Nat.reduceLeDiff, Nat.reduceEqDiff, if_true, if_false, ↓reduceIte, and_true, true_and, Nat.zero_le, reduceCtorEq, eq_self, decide_eq_true_eq, Int.natCast_add, Int.natCast_one] <;> try first | omega | ((repeat' (first | exact And.intro rfl (by omega) | (refine And.intro ?_ ?_))) <;> first | rfl | omega | (congr 3; omega) | (congr 2; omega))
      · rw [lexI_ne (fun h => he (cmpT_zero h)), cmpT_neg_iff] at g2
        rw [g2]
        simp (implicitDefEqProofs := false) (disch := omega) only [go_sem, reduceCtorEq, Nat.reduceEqDiff, Nat.reduceBEq, ↓reduceIte, Nat.reduceGT, Nat.reduceAdd, Int.reduceEq, Int.reduceLT, Int.reduceLE, Int.reduceNeg, Int.reduceAdd, Int.reduceSub, Int.reduceMul, Int.reduceDiv, Int.reduceMod, Nat.reduceLT, Nat.reduceLeDiff, Nat.reduceMul, Nat.reduceSub, Int.reduceToNat, go_sem, Nat.le_refl, cellsV, he, Try.results32]
        rfl
    · rw [if_neg h5, lexI_z] at g2
      rcases fin g2 with ⟨f1, f2⟩ | ⟨f1, f2, f3⟩ | ⟨f1, f2, f3⟩
      · rw [decide_eq_true f1] at ho
        rw [f2]
        simp (implicitDefEqProofs := false) (disch := omega) only [go_sem, reduceCtorEq, Nat.reduceEqDiff, Nat.reduceBEq, ↓reduceIte, Nat.reduceGT, Nat.reduceAdd, Int.reduceEq, Int.reduceLT, Int.reduceLE, Int.reduceNeg, Int.reduceAdd, Int.reduceSub, Int.reduceMul, Int.reduceDiv, Int.reduceMod, Nat.reduceLT, Nat.reduceLeDiff, Nat.reduceMul, Nat.reduceSub, Int.reduceToNat, go_sem, Nat.le_refl, cellsV, Try.results32]
        with_reducible refine CallOk.of ho rfl ?_
        simp (implicitDefEqProofs := false) (disch := omega) only [go_sem, reduceCtorEq, Nat.reduceEqDiff, Nat.reduceBEq, ↓reduceIte, Nat.reduceGT, Nat.reduceAdd, Int.reduceEq, Int.reduceLT, Int.reduceLE, Int.reduceNeg, Int.reduceAdd, Int.reduceSub, Int.reduceMul, Int.reduceDiv, Int.reduceMod, Nat.reduceLT, Nat.reduceLeDiff, Nat.reduceMul, Nat.reduceSub, Int.reduceToNat, go_sem, Nat.le_refl, cellsV, Try.results32]
      · rw [decide_eq_false (by omega)] at ho
        rw [f2] at hs
        rw [f3]
        simp (implicitDefEqProofs := false) (disch := omega) only [go_sem, reduceCtorEq, Nat.reduceEqDiff, Nat.reduceBEq, ↓reduceIte, Nat.reduceGT, Nat.reduceAdd, Int.reduceEq, Int.reduceLT, Int.reduceLE, Int.reduceNeg, Int.reduceAdd, Int.reduceSub, Int.reduceMul, Int.reduceDiv, Int.reduceMod, Nat.reduceLT, Nat.reduceLeDiff, Nat.reduceMul, Nat.reduceSub, Int.reduceToNat, go_sem, Nat.le_refl, cellsV, Try.results32]
        with_reducible refine CallOk.of ho rfl ?_
        simp (implicitDefEqProofs := false) (disch := omega) only [go_sem, reduceCtorEq, Nat.reduceEqDiff, Nat.reduceBEq, ↓reduceIte, Nat.reduceGT, Nat.reduceAdd, Int.reduceEq, Int.reduceLT, Int.reduceLE, Int.reduceNeg, Int.reduceAdd, Int.reduceSub, Int.reduceMul, Int.reduceDiv, Int.reduceMod, Nat.reduceLT, Nat.reduceLeDiff, Nat.reduceMul, Nat.reduceSub, Int.reduceToNat, go_sem, Nat.le_refl, cellsV, Try.results32]
        with_reducible refine CallOk.of hs rfl ?_
        simp (implicitDefEqProofs := false) (disch := omega) only [go_sem, reduceCtorEq, Nat.reduceEqDiff, Nat.reduceBEq, ↓reduceIte, Nat.reduceGT, Nat.reduceAdd, Int.reduceEq, Int.reduceLT, Int.reduceLE, Int.reduceNeg, Int.reduceAdd, Int.reduceSub, Int.reduceMul, Int.reduceDiv, Int.reduceMod, Nat.reduceLT, Nat.reduceLeDiff, Nat.reduceMul, Nat.reduceSub, Int.reduceToNat, go_sem, Nat.le_refl, cellsV, Try.results32]
      · rw [decide_eq_false (by omega)] at ho
        rw [f2] at hs
        simp (implicitDefEqProofs := false) (disch := omega) only [go_sem, reduceCtorEq, Nat.reduceEqDiff, Nat.reduceBEq, ↓reduceIte, Nat.reduceGT, Nat.reduceAdd, Int.reduceEq, Int.reduceLT, Int.reduceLE, Int.reduceNeg, Int.reduceAdd, Int.reduceSub, Int.reduceMul, Int.reduceDiv, Int.reduceMod, Nat.reduceLT, Nat.reduceLeDiff, Nat.reduceMul, Nat.reduceSub, Int.reduceToNat, go_sem, Nat.le_refl, cellsV, Try.results32]
        with_reducible refine CallOk.of ho rfl ?_
        simp (implicitDefEqProofs := false) (disch := omega) only [go_sem, reduceCtorEq, Nat.reduceEqDiff, Nat.reduceBEq, ↓reduceIte, Nat.reduceGT, Nat.reduceAdd, Int.reduceEq, Int.reduceLT, Int.reduceLE, Int.reduceNeg, Int.reduceAdd, Int.reduceSub, Int.reduceMul, Int.reduceDiv, Int.reduceMod, Nat.reduceLT, Nat.reduceLeDiff, Nat.reduceMul, Nat.reduceSub, Int.reduceToNat, go_sem, Nat.le_refl, cellsV, Try.results32]
        with_reducible refine CallOk.of hs rfl ?_
        simp (implicitDefEqProofs := false) (disch := omega) only [go_sem, reduceCtorEq, Nat.reduceEqDiff, Nat.reduceBEq, ↓reduceIte, Nat.reduceGT, Nat.reduceAdd, Int.reduceEq, Int.reduceLT, Int.reduceLE, Int.reduceNeg, Int.reduceAdd, Int.reduceSub, Int.reduceMul, Int.reduceDiv, Int.reduceMod, Nat.reduceLT, Nat.reduceLeDiff, Nat.reduceMul, Nat.reduceSub, Int.reduceToNat, go_sem, Nat.le_refl, cellsV, Try.results32]
        refine ⟨⟨i + 1, by omega, f3⟩, by simp only; omega, ?_⟩
        refine ⟨?_, ?_, ?_, ?_, ?_, ?_, ?_⟩ <;> simp only [mem_cons_, mem_nil_, lkp, hold_eq, b_some, frz_self, frz1_self, frzL_self, frzO_self, frzO_box, frzO_iter, frzL_cons, frzL_nil, frz_agg, frz1_row, frz1_nil, frz1_val, frz1_sl, frz1_rr, frz1_ptr, frz1_ms, frz_val, frz_sl, frz_row, frz_ptr, frz_ms, frz_fp, frz_tup, frz_fn, PV.lt, PV.ltL, PObj.lt, decide_true, Bool.true_and, Bool.and_true, Bool.and_self, Nat.reduceLT, Nat.reduceLeDiff, Nat.reduceEqDiff, if_true, if_false, ↓reduceIte, and_true, true_and, Nat.zero_le, reduceCtorEq, eq_self, decide_eq_true_eq, Int.natCast_add, Int.natCast_one] <;> try first | omega | ((repeat' (first | exact And.intro rfl (by omega) | (refine And.intro ?_ ?_))) <;> first | rfl | omega | (congr 3; omega) | (congr 2; omega))
set_option maxHeartbeats 16000000 in
theorem orders_ok (a b c : List Nd) (hA : NdsOk a) (la : a.length ≤ 9223372036854775807) (hB : NdsOk b) (lb : b.length ≤ 9223372036854775807) (hC : NdsOk c) (lc : c.length ≤ 9223372036854775807) : Ok Try.prog 9 [.sl (encN a), .sl (encN b), .sl (encN c)] (vB true) := by
  refine Ok.of_pwp (by kernel_rfl) Try.func9 rfl (by kernel_rfl) (by kernel_rfl) ?_
  simp (implicitDefEqProofs := false) (disch := omega) only [go_sem, reduceCtorEq, Nat.reduceEqDiff, Nat.reduceBEq, ↓reduceIte, Nat.reduceGT, Nat.reduceAdd, Int.reduceEq, Int.reduceLT, Int.reduceLE, Int.reduceNeg, Int.reduceAdd, Int.reduceSub, Int.reduceMul, Int.reduceDiv, Int.reduceMod, Nat.reduceLT, Nat.reduceLeDiff, Nat.reduceMul, Nat.reduceSub, Int.reduceToNat, go_sem, Nat.le_refl, cellsV, Try.results9, beq_self_eq_true, Bool.not_true, Bool.not_false, decide_true]
  with_reducible refine CallOk.of (awake_ok) rfl ?_
  simp (implicitDefEqProofs := false) (disch := omega) only [go_sem, reduceCtorEq, Nat.reduceEqDiff, Nat.reduceBEq, ↓reduceIte, Nat.reduceGT, Nat.reduceAdd, Int.reduceEq, Int.reduceLT, Int.reduceLE, Int.reduceNeg, Int.reduceAdd, Int.reduceSub, Int.reduceMul, Int.reduceDiv, Int.reduceMod, Nat.reduceLT, Nat.reduceLeDiff, Nat.reduceMul, Nat.reduceSub, Int.reduceToNat, go_sem, Nat.le_refl, cellsV, Try.results9, beq_self_eq_true, Bool.not_true, Bool.not_false, decide_true]
  refine CallOk.ofI (OkI.ofQ (st := ⟨[], _, _, _, _⟩) (tree_ok a hA la) ?_) rfl rfl rfl rfl ?_
  · rfl
  rintro r st1 ⟨⟨k, hk, rfl⟩, rfl⟩
  simp (implicitDefEqProofs := false) (disch := omega) only [go_sem, reduceCtorEq, Nat.reduceEqDiff, Nat.reduceBEq, ↓reduceIte, Nat.reduceGT, Nat.reduceAdd, Int.reduceEq, Int.reduceLT, Int.reduceLE, Int.reduceNeg, Int.reduceAdd, Int.reduceSub, Int.reduceMul, Int.reduceDiv, Int.reduceMod, Nat.reduceLT, Nat.reduceLeDiff, Nat.reduceMul, Nat.reduceSub, Int.reduceToNat, go_sem, Nat.le_refl, cellsV, Try.results9, beq_self_eq_true, Bool.not_true, Bool.not_false, decide_true]
  refine CallOk.ofI (OkI.ofQ (st := ⟨[], _, _, _, _⟩) (tree_ok b hB lb) ?_) rfl rfl rfl rfl ?_
  · rfl
  rintro r st1 ⟨⟨l, hl, rfl⟩, rfl⟩
  simp (implicitDefEqProofs := false) (disch := omega) only [go_sem, reduceCtorEq, Nat.reduceEqDiff, Nat.reduceBEq, ↓reduceIte, Nat.reduceGT, Nat.reduceAdd, Int.reduceEq, Int.reduceLT, Int.reduceLE, Int.reduceNeg, Int.reduceAdd, Int.reduceSub, Int.reduceMul, Int.reduceDiv, Int.reduceMod, Nat.reduceLT, Nat.reduceLeDiff, Nat.reduceMul, Nat.reduceSub, Int.reduceToNat, go_sem, Nat.le_refl, cellsV, Try.results9, beq_self_eq_true, Bool.not_true, Bool.not_false, decide_true]
  refine CallOk.ofI (OkI.ofQ (st := ⟨[], _, _, _, _⟩) (tree_ok c hC lc) ?_) rfl rfl rfl rfl ?_
  · rfl
  rintro r st1 ⟨⟨m, hm, rfl⟩, rfl⟩
  have sk := hk.sz
  have sl := hl.sz
  have sm := hm.sz
  have r1 := real_ok k (by omega)
  have r2 := real_ok l (by omega)
  have r3 := real_ok m (by omega)
  have l1 := less_ok k (by omega) hk.good l (by omega) hl.good
  have l2 := less_ok l (by omega) hl.good k (by omega) hk.good
  have o1 := order_ok k (by omega) hk.good l (by omega) hl.good
  have o2 := order_ok l (by omega) hl.good k (by omega) hk.good
  have o3 := order_ok l (by omega) hl.good m (by omega) hm.good
  have o4 := order_ok k (by omega) hk.good m (by omega) hm.good
  have s1 := vsame_ok k l (by omega) hk.good (by omega) hl.good
  have s2 := same_ok k (by omega) l (by omega)
  have tt := cmpV_TT k l m
  have ng := cmpV_neg k l
  have rg := cmpV_range k l
  have rg3 := cmpV_range l m
  have rg4 := cmpV_range k m
  have hs : sameV k l = decide (cmpV k l = 0) := by
    by_cases h : cmpV k l = 0
    · rw [decide_eq_true h]; exact sameV_T (cmpV_zero _ _ hk.good hl.good h)
    · rw [decide_eq_false h]; exact sameV_F (fun e => h (by rw [e]; exact cmpV_self l))
  rw [hs] at s1 s2
  rw [ng] at l2 o2
  generalize cmpV k l = o at *
  generalize cmpV l m = u at *
  generalize cmpV k m = t at *
  unfold TT at tt
  simp (implicitDefEqProofs := false) (disch := omega) only [go_sem, reduceCtorEq, Nat.reduceEqDiff, Nat.reduceBEq, ↓reduceIte, Nat.reduceGT, Nat.reduceAdd, Int.reduceEq, Int.reduceLT, Int.reduceLE, Int.reduceNeg, Int.reduceAdd, Int.reduceSub, Int.reduceMul, Int.reduceDiv, Int.reduceMod, Nat.reduceLT, Nat.reduceLeDiff, Nat.reduceMul, Nat.reduceSub, Int.reduceToNat, go_sem, Nat.le_refl, cellsV, Try.results9, beq_self_eq_true, Bool.not_true, Bool.not_false, decide_true]
  with_reducible refine CallOk.of (r1) rfl ?_
  simp (implicitDefEqProofs := false) (disch := omega) only [go_sem, reduceCtorEq, Nat.reduceEqDiff, Nat.reduceBEq, ↓reduceIte, Nat.reduceGT, Nat.reduceAdd, Int.reduceEq, Int.reduceLT, Int.reduceLE, Int.reduceNeg, Int.reduceAdd, Int.reduceSub, Int.reduceMul, Int.reduceDiv, Int.reduceMod, Nat.reduceLT, Nat.reduceLeDiff, Nat.reduceMul, Nat.reduceSub, Int.reduceToNat, go_sem, Nat.le_refl, cellsV, Try.results9, beq_self_eq_true, Bool.not_true, Bool.not_false, decide_true]
  with_reducible refine CallOk.of (r2) rfl ?_
  simp (implicitDefEqProofs := false) (disch := omega) only [go_sem, reduceCtorEq, Nat.reduceEqDiff, Nat.reduceBEq, ↓reduceIte, Nat.reduceGT, Nat.reduceAdd, Int.reduceEq, Int.reduceLT, Int.reduceLE, Int.reduceNeg, Int.reduceAdd, Int.reduceSub, Int.reduceMul, Int.reduceDiv, Int.reduceMod, Nat.reduceLT, Nat.reduceLeDiff, Nat.reduceMul, Nat.reduceSub, Int.reduceToNat, go_sem, Nat.le_refl, cellsV, Try.results9, beq_self_eq_true, Bool.not_true, Bool.not_false, decide_true]
  with_reducible refine CallOk.of (r3) rfl ?_
  simp (implicitDefEqProofs := false) (disch := omega) only [go_sem, reduceCtorEq, Nat.reduceEqDiff, Nat.reduceBEq, ↓reduceIte, Nat.reduceGT, Nat.reduceAdd, Int.reduceEq, Int.reduceLT, Int.reduceLE, Int.reduceNeg, Int.reduceAdd, Int.reduceSub, Int.reduceMul, Int.reduceDiv, Int.reduceMod, Nat.reduceLT, Nat.reduceLeDiff, Nat.reduceMul, Nat.reduceSub, Int.reduceToNat, go_sem, Nat.le_refl, cellsV, Try.results9, beq_self_eq_true, Bool.not_true, Bool.not_false, decide_true]
  have ho : o = -1 ∨ o = 0 ∨ o = 1 := by omega
  rcases ho with rfl | rfl | rfl
  · with_reducible refine CallOk.of (l1) rfl ?_
    simp (implicitDefEqProofs := false) (disch := omega) only [go_sem, reduceCtorEq, Nat.reduceEqDiff, Nat.reduceBEq, ↓reduceIte, Nat.reduceGT, Nat.reduceAdd, Int.reduceEq, Int.reduceLT, Int.reduceLE, Int.reduceNeg, Int.reduceAdd, Int.reduceSub, Int.reduceMul, Int.reduceDiv, Int.reduceMod, Nat.reduceLT, Nat.reduceLeDiff, Nat.reduceMul, Nat.reduceSub, Int.reduceToNat, go_sem, Nat.le_refl, cellsV, Try.results9, beq_self_eq_true, Bool.not_true, Bool.not_false, decide_true]
    with_reducible refine CallOk.of (o1) rfl ?_
    simp (implicitDefEqProofs := false) (disch := omega) only [go_sem, reduceCtorEq, Nat.reduceEqDiff, Nat.reduceBEq, ↓reduceIte, Nat.reduceGT, Nat.reduceAdd, Int.reduceEq, Int.reduceLT, Int.reduceLE, Int.reduceNeg, Int.reduceAdd, Int.reduceSub, Int.reduceMul, Int.reduceDiv, Int.reduceMod, Nat.reduceLT, Nat.reduceLeDiff, Nat.reduceMul, Nat.reduceSub, Int.reduceToNat, go_sem, Nat.le_refl, cellsV, Try.results9, beq_self_eq_true, Bool.not_true, Bool.not_false, decide_true]
    with_reducible refine CallOk.of (o2) rfl ?_
    simp (implicitDefEqProofs := false) (disch := omega) only [go_sem, reduceCtorEq, Nat.reduceEqDiff, Nat.reduceBEq, ↓reduceIte, Nat.reduceGT, Nat.reduceAdd, Int.reduceEq, Int.reduceLT, Int.reduceLE, Int.reduceNeg, Int.reduceAdd, Int.reduceSub, Int.reduceMul, Int.reduceDiv, Int.reduceMod, Nat.reduceLT, Nat.reduceLeDiff, Nat.reduceMul, Nat.reduceSub, Int.reduceToNat, go_sem, Nat.le_refl, cellsV, Try.results9, beq_self_eq_true, Bool.not_true, Bool.not_false, decide_true]
    with_reducible refine CallOk.of (s1) rfl ?_
    simp (implicitDefEqProofs := false) (disch := omega) only [go_sem, reduceCtorEq, Nat.reduceEqDiff, Nat.reduceBEq, ↓reduceIte, Nat.reduceGT, Nat.reduceAdd, Int.reduceEq, Int.reduceLT, Int.reduceLE, Int.reduceNeg, Int.reduceAdd, Int.reduceSub, Int.reduceMul, Int.reduceDiv, Int.reduceMod, Nat.reduceLT, Nat.reduceLeDiff, Nat.reduceMul, Nat.reduceSub, Int.reduceToNat, go_sem, Nat.le_refl, cellsV, Try.results9, beq_self_eq_true, Bool.not_true, Bool.not_false, decide_true]
    with_reducible refine CallOk.of (s2) rfl ?_
    simp (implicitDefEqProofs := false) (disch := omega) only [go_sem, reduceCtorEq, Nat.reduceEqDiff, Nat.reduceBEq, ↓reduceIte, Nat.reduceGT, Nat.reduceAdd, Int.reduceEq, Int.reduceLT, Int.reduceLE, Int.reduceNeg, Int.reduceAdd, Int.reduceSub, Int.reduceMul, Int.reduceDiv, Int.reduceMod, Nat.reduceLT, Nat.reduceLeDiff, Nat.reduceMul, Nat.reduceSub, Int.reduceToNat, go_sem, Nat.le_refl, cellsV, Try.results9, beq_self_eq_true, Bool.not_true, Bool.not_false, decide_true]
    with_reducible refine CallOk.of (s2) rfl ?_
    simp (implicitDefEqProofs := false) (disch := omega) only [go_sem, reduceCtorEq, Nat.reduceEqDiff, Nat.reduceBEq, ↓reduceIte, Nat.reduceGT, Nat.reduceAdd, Int.reduceEq, Int.reduceLT, Int.reduceLE, Int.reduceNeg, Int.reduceAdd, Int.reduceSub, Int.reduceMul, Int.reduceDiv, Int.reduceMod, Nat.reduceLT, Nat.reduceLeDiff, Nat.reduceMul, Nat.reduceSub, Int.reduceToNat, go_sem, Nat.le_refl, cellsV, Try.results9, beq_self_eq_true, Bool.not_true, Bool.not_false, decide_true]
    with_reducible refine CallOk.of (o3) rfl ?_
    simp (implicitDefEqProofs := false) (disch := omega) only [go_sem, reduceCtorEq, Nat.reduceEqDiff, Nat.reduceBEq, ↓reduceIte, Nat.reduceGT, Nat.reduceAdd, Int.reduceEq, Int.reduceLT, Int.reduceLE, Int.reduceNeg, Int.reduceAdd, Int.reduceSub, Int.reduceMul, Int.reduceDiv, Int.reduceMod, Nat.reduceLT, Nat.reduceLeDiff, Nat.reduceMul, Nat.reduceSub, Int.reduceToNat, go_sem, Nat.le_refl, cellsV, Try.results9, beq_self_eq_true, Bool.not_true, Bool.not_false, decide_true]
    by_cases hu : 0 < u
    · simp (implicitDefEqProofs := false) (disch := omega) only [go_sem, reduceCtorEq, Nat.reduceEqDiff, Nat.reduceBEq, ↓reduceIte, Nat.reduceGT, Nat.reduceAdd, Int.reduceEq, Int.reduceLT, Int.reduceLE, Int.reduceNeg, Int.reduceAdd, Int.reduceSub, Int.reduceMul, Int.reduceDiv, Int.reduceMod, Nat.reduceLT, Nat.reduceLeDiff, Nat.reduceMul, Nat.reduceSub, Int.reduceToNat, go_sem, Nat.le_refl, cellsV, Try.results9, beq_self_eq_true, Bool.not_true, Bool.not_false, decide_true]
    · have ht : t ≤ 0 := tt.1 (by omega) (by omega)
      simp (implicitDefEqProofs := false) (disch := omega) only [go_sem, reduceCtorEq, Nat.reduceEqDiff, Nat.reduceBEq, ↓reduceIte, Nat.reduceGT, Nat.reduceAdd, Int.reduceEq, Int.reduceLT, Int.reduceLE, Int.reduceNeg, Int.reduceAdd, Int.reduceSub, Int.reduceMul, Int.reduceDiv, Int.reduceMod, Nat.reduceLT, Nat.reduceLeDiff, Nat.reduceMul, Nat.reduceSub, Int.reduceToNat, go_sem, Nat.le_refl, cellsV, Try.results9, beq_self_eq_true, Bool.not_true, Bool.not_false, decide_true]
      with_reducible refine CallOk.of (o4) rfl ?_
      simp (implicitDefEqProofs := false) (disch := omega) only [go_sem, reduceCtorEq, Nat.reduceEqDiff, Nat.reduceBEq, ↓reduceIte, Nat.reduceGT, Nat.reduceAdd, Int.reduceEq, Int.reduceLT, Int.reduceLE, Int.reduceNeg, Int.reduceAdd, Int.reduceSub, Int.reduceMul, Int.reduceDiv, Int.reduceMod, Nat.reduceLT, Nat.reduceLeDiff, Nat.reduceMul, Nat.reduceSub, Int.reduceToNat, go_sem, Nat.le_refl, cellsV, Try.results9, beq_self_eq_true, Bool.not_true, Bool.not_false, decide_true]
      rw [decide_eq_true ht]
  · with_reducible refine CallOk.of (l1) rfl ?_
    simp (implicitDefEqProofs := false) (disch := omega) only [go_sem, reduceCtorEq, Nat.reduceEqDiff, Nat.reduceBEq, ↓reduceIte, Nat.reduceGT, Nat.reduceAdd, Int.reduceEq, Int.reduceLT, Int.reduceLE, Int.reduceNeg, Int.reduceAdd, Int.reduceSub, Int.reduceMul, Int.reduceDiv, Int.reduceMod, Nat.reduceLT, Nat.reduceLeDiff, Nat.reduceMul, Nat.reduceSub, Int.reduceToNat, go_sem, Nat.le_refl, cellsV, Try.results9, beq_self_eq_true, Bool.not_true, Bool.not_false, decide_true]
    with_reducible refine CallOk.of (l2) rfl ?_
    simp (implicitDefEqProofs := false) (disch := omega) only [go_sem, reduceCtorEq, Nat.reduceEqDiff, Nat.reduceBEq, ↓reduceIte, Nat.reduceGT, Nat.reduceAdd, Int.reduceEq, Int.reduceLT, Int.reduceLE, Int.reduceNeg, Int.reduceAdd, Int.reduceSub, Int.reduceMul, Int.reduceDiv, Int.reduceMod, Nat.reduceLT, Nat.reduceLeDiff, Nat.reduceMul, Nat.reduceSub, Int.reduceToNat, go_sem, Nat.le_refl, cellsV, Try.results9, beq_self_eq_true, Bool.not_true, Bool.not_false, decide_true]
    with_reducible refine CallOk.of (o1) rfl ?_
    simp (implicitDefEqProofs := false) (disch := omega) only [go_sem, reduceCtorEq, Nat.reduceEqDiff, Nat.reduceBEq, ↓reduceIte, Nat.reduceGT, Nat.reduceAdd, Int.reduceEq, Int.reduceLT, Int.reduceLE, Int.reduceNeg, Int.reduceAdd, Int.reduceSub, Int.reduceMul, Int.reduceDiv, Int.reduceMod, Nat.reduceLT, Nat.reduceLeDiff, Nat.reduceMul, Nat.reduceSub, Int.reduceToNat, go_sem, Nat.le_refl, cellsV, Try.results9, beq_self_eq_true, Bool.not_true, Bool.not_false, decide_true]
    with_reducible refine CallOk.of (o2) rfl ?_
    simp (implicitDefEqProofs := false) (disch := omega) only [go_sem, reduceCtorEq, Nat.reduceEqDiff, Nat.reduceBEq, ↓reduceIte, Nat.reduceGT, Nat.reduceAdd, Int.reduceEq, Int.reduceLT, Int.reduceLE, Int.reduceNeg, Int.reduceAdd, Int.reduceSub, Int.reduceMul, Int.reduceDiv, Int.reduceMod, Nat.reduceLT, Nat.reduceLeDiff, Nat.reduceMul, Nat.reduceSub, Int.reduceToNat, go_sem, Nat.le_refl, cellsV, Try.results9, beq_self_eq_true, Bool.not_true, Bool.not_false, decide_true]
    with_reducible refine CallOk.of (s1) rfl ?_
    simp (implicitDefEqProofs := false) (disch := omega) only [go_sem, reduceCtorEq, Nat.reduceEqDiff, Nat.reduceBEq, ↓reduceIte, Nat.reduceGT, Nat.reduceAdd, Int.reduceEq, Int.reduceLT, Int.reduceLE, Int.reduceNeg, Int.reduceAdd, Int.reduceSub, Int.reduceMul, Int.reduceDiv, Int.reduceMod, Nat.reduceLT, Nat.reduceLeDiff, Nat.reduceMul, Nat.reduceSub, Int.reduceToNat, go_sem, Nat.le_refl, cellsV, Try.results9, beq_self_eq_true, Bool.not_true, Bool.not_false, decide_true]
    with_reducible refine CallOk.of (s2) rfl ?_
    simp (implicitDefEqProofs := false) (disch := omega) only [go_sem, reduceCtorEq, Nat.reduceEqDiff, Nat.reduceBEq, ↓reduceIte, Nat.reduceGT, Nat.reduceAdd, Int.reduceEq, Int.reduceLT, Int.reduceLE, Int.reduceNeg, Int.reduceAdd, Int.reduceSub, Int.reduceMul, Int.reduceDiv, Int.reduceMod, Nat.reduceLT, Nat.reduceLeDiff, Nat.reduceMul, Nat.reduceSub, Int.reduceToNat, go_sem, Nat.le_refl, cellsV, Try.results9, beq_self_eq_true, Bool.not_true, Bool.not_false, decide_true]
    with_reducible refine CallOk.of (s2) rfl ?_
    simp (implicitDefEqProofs := false) (disch := omega) only [go_sem, reduceCtorEq, Nat.reduceEqDiff, Nat.reduceBEq, ↓reduceIte, Nat.reduceGT, Nat.reduceAdd, Int.reduceEq, Int.reduceLT, Int.reduceLE, Int.reduceNeg, Int.reduceAdd, Int.reduceSub, Int.reduceMul, Int.reduceDiv, Int.reduceMod, Nat.reduceLT, Nat.reduceLeDiff, Nat.reduceMul, Nat.reduceSub, Int.reduceToNat, go_sem, Nat.le_refl, cellsV, Try.results9, beq_self_eq_true, Bool.not_true, Bool.not_false, decide_true]
    with_reducible refine CallOk.of (o3) rfl ?_
    simp (implicitDefEqProofs := false) (disch := omega) only [go_sem, reduceCtorEq, Nat.reduceEqDiff, Nat.reduceBEq, ↓reduceIte, Nat.reduceGT, Nat.reduceAdd, Int.reduceEq, Int.reduceLT, Int.reduceLE, Int.reduceNeg, Int.reduceAdd, Int.reduceSub, Int.reduceMul, Int.reduceDiv, Int.reduceMod, Nat.reduceLT, Nat.reduceLeDiff, Nat.reduceMul, Nat.reduceSub, Int.reduceToNat, go_sem, Nat.le_refl, cellsV, Try.results9, beq_self_eq_true, Bool.not_true, Bool.not_false, decide_true]
    by_cases hu : 0 < u
    · simp (implicitDefEqProofs := false) (disch := omega) only [go_sem, reduceCtorEq, Nat.reduceEqDiff, Nat.reduceBEq, ↓reduceIte, Nat.reduceGT, Nat.reduceAdd, Int.reduceEq, Int.reduceLT, Int.reduceLE, Int.reduceNeg, Int.reduceAdd, Int.reduceSub, Int.reduceMul, Int.reduceDiv, Int.reduceMod, Nat.reduceLT, Nat.reduceLeDiff, Nat.reduceMul, Nat.reduceSub, Int.reduceToNat, go_sem, Nat.le_refl, cellsV, Try.results9, beq_self_eq_true, Bool.not_true, Bool.not_false, decide_true]
    · have ht : t ≤ 0 := tt.1 (by omega) (by omega)
      simp (implicitDefEqProofs := false) (disch := omega) only [go_sem, reduceCtorEq, Nat.reduceEqDiff, Nat.reduceBEq, ↓reduceIte, Nat.reduceGT, Nat.reduceAdd, Int.reduceEq, Int.reduceLT, Int.reduceLE, Int.reduceNeg, Int.reduceAdd, Int.reduceSub, Int.reduceMul, Int.reduceDiv, Int.reduceMod, Nat.reduceLT, Nat.reduceLeDiff, Nat.reduceMul, Nat.reduceSub, Int.reduceToNat, go_sem, Nat.le_refl, cellsV, Try.results9, beq_self_eq_true, Bool.not_true, Bool.not_false, decide_true]
      with_reducible refine CallOk.of (o4) rfl ?_
      simp (implicitDefEqProofs := false) (disch := omega) only [go_sem, reduceCtorEq, Nat.reduceEqDiff, Nat.reduceBEq, ↓reduceIte, Nat.reduceGT, Nat.reduceAdd, Int.reduceEq, Int.reduceLT, Int.reduceLE, Int.reduceNeg, Int.reduceAdd, Int.reduceSub, Int.reduceMul, Int.reduceDiv, Int.reduceMod, Nat.reduceLT, Nat.reduceLeDiff, Nat.reduceMul, Nat.reduceSub, Int.reduceToNat, go_sem, Nat.le_refl, cellsV, Try.results9, beq_self_eq_true, Bool.not_true, Bool.not_false, decide_true]
      rw [decide_eq_true ht]
  · with_reducible refine CallOk.of (l1) rfl ?_
    simp (implicitDefEqProofs := false) (disch := omega) only [go_sem, reduceCtorEq, Nat.reduceEqDiff, Nat.reduceBEq, ↓reduceIte, Nat.reduceGT, Nat.reduceAdd, Int.reduceEq, Int.reduceLT, Int.reduceLE, Int.reduceNeg, Int.reduceAdd, Int.reduceSub, Int.reduceMul, Int.reduceDiv, Int.reduceMod, Nat.reduceLT, Nat.reduceLeDiff, Nat.reduceMul, Nat.reduceSub, Int.reduceToNat, go_sem, Nat.le_refl, cellsV, Try.results9, beq_self_eq_true, Bool.not_true, Bool.not_false, decide_true]
    with_reducible refine CallOk.of (l2) rfl ?_
    simp (implicitDefEqProofs := false) (disch := omega) only [go_sem, reduceCtorEq, Nat.reduceEqDiff, Nat.reduceBEq, ↓reduceIte, Nat.reduceGT, Nat.reduceAdd, Int.reduceEq, Int.reduceLT, Int.reduceLE, Int.reduceNeg, Int.reduceAdd, Int.reduceSub, Int.reduceMul, Int.reduceDiv, Int.reduceMod, Nat.reduceLT, Nat.reduceLeDiff, Nat.reduceMul, Nat.reduceSub, Int.reduceToNat, go_sem, Nat.le_refl, cellsV, Try.results9, beq_self_eq_true, Bool.not_true, Bool.not_false, decide_true]
    with_reducible refine CallOk.of (o1) rfl ?_
    simp (implicitDefEqProofs := false) (disch := omega) only [go_sem, reduceCtorEq, Nat.reduceEqDiff, Nat.reduceBEq, ↓reduceIte, Nat.reduceGT, Nat.reduceAdd, Int.reduceEq, Int.reduceLT, Int.reduceLE, Int.reduceNeg, Int.reduceAdd, Int.reduceSub, Int.reduceMul, Int.reduceDiv, Int.reduceMod, Nat.reduceLT, Nat.reduceLeDiff, Nat.reduceMul, Nat.reduceSub, Int.reduceToNat, go_sem, Nat.le_refl, cellsV, Try.results9, beq_self_eq_true, Bool.not_true, Bool.not_false, decide_true]
    with_reducible refine CallOk.of (o2) rfl ?_
    simp (implicitDefEqProofs := false) (disch := omega) only [go_sem, reduceCtorEq, Nat.reduceEqDiff, Nat.reduceBEq, ↓reduceIte, Nat.reduceGT, Nat.reduceAdd, Int.reduceEq, Int.reduceLT, Int.reduceLE, Int.reduceNeg, Int.reduceAdd, Int.reduceSub, Int.reduceMul, Int.reduceDiv, Int.reduceMod, Nat.reduceLT, Nat.reduceLeDiff, Nat.reduceMul, Nat.reduceSub, Int.reduceToNat, go_sem, Nat.le_refl, cellsV, Try.results9, beq_self_eq_true, Bool.not_true, Bool.not_false, decide_true]
    with_reducible refine CallOk.of (s1) rfl ?_
    simp (implicitDefEqProofs := false) (disch := omega) only [go_sem, reduceCtorEq, Nat.reduceEqDiff, Nat.reduceBEq, ↓reduceIte, Nat.reduceGT, Nat.reduceAdd, Int.reduceEq, Int.reduceLT, Int.reduceLE, Int.reduceNeg, Int.reduceAdd, Int.reduceSub, Int.reduceMul, Int.reduceDiv, Int.reduceMod, Nat.reduceLT, Nat.reduceLeDiff, Nat.reduceMul, Nat.reduceSub, Int.reduceToNat, go_sem, Nat.le_refl, cellsV, Try.results9, beq_self_eq_true, Bool.not_true, Bool.not_false, decide_true]
    with_reducible refine CallOk.of (s2) rfl ?_
    simp (implicitDefEqProofs := false) (disch := omega) only [go_sem, reduceCtorEq, Nat.reduceEqDiff, Nat.reduceBEq, ↓reduceIte, Nat.reduceGT, Nat.reduceAdd, Int.reduceEq, Int.reduceLT, Int.reduceLE, Int.reduceNeg, Int.reduceAdd, Int.reduceSub, Int.reduceMul, Int.reduceDiv, Int.reduceMod, Nat.reduceLT, Nat.reduceLeDiff, Nat.reduceMul, Nat.reduceSub, Int.reduceToNat, go_sem, Nat.le_refl, cellsV, Try.results9, beq_self_eq_true, Bool.not_true, Bool.not_false, decide_true]
    with_reducible refine CallOk.of (s2) rfl ?_
    simp (implicitDefEqProofs := false) (disch := omega) only [go_sem, reduceCtorEq, Nat.reduceEqDiff, Nat.reduceBEq, ↓reduceIte, Nat.reduceGT, Nat.reduceAdd, Int.reduceEq, Int.reduceLT, Int.reduceLE, Int.reduceNeg, Int.reduceAdd, Int.reduceSub, Int.reduceMul, Int.reduceDiv, Int.reduceMod, Nat.reduceLT, Nat.reduceLeDiff, Nat.reduceMul, Nat.reduceSub, Int.reduceToNat, go_sem, Nat.le_refl, cellsV, Try.results9, beq_self_eq_true, Bool.not_true, Bool.not_false, decide_true]
end Go.Proofs.Ytefhongghmimgaa
