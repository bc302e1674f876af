/-
  Chapter 12: the program's Weigh, over any source of ours.
-/
import Derived.Test.YtmenmfibpbpblaaF1
import Derived.Test.YtmenmfibpbpblaaPL
open Go Go.Proofs Go.Pw Go.RowKit
namespace Go.Proofs.Ytmenmfibpbpblaa
set_option maxRecDepth 4000
set_option linter.unusedVariables false
set_option linter.unusedSimpArgs false
set_option maxHeartbeats 2000000 in
/-- The program's. -/
theorem weigh_I (T TO : TypeId) (F : FuncId) (u u' n : Int) (x x' : PV) (l : List Int) (hd : DispOk Try.prog T "Next" F 0) (hx : ∀ a b, PV.lt a b x = true) (hx' : ∀ a b, PV.lt a b x' = true) (hr1 : ∀ f b, PV.rn f b x = x) (hr2 : ∀ f b, PV.rn f b x' = x') (hl : l.length ≤ 1000) (hn : wCode l = 0 → 0 ≤ n ∧ n ≤ 1000000)
    (c : OkI Try.prog F [.ptr 0 0, vI (sumT l l.length)] ⟨[], [(0, .box TO [vI u, x])], [], 1, 0⟩ (fun r st' => r = vI n ∧ st' = ⟨[], [(0, .box TO [vI u', x'])], [], 1, 0⟩)) :
    OkI Try.prog 15 [.iface T (.ptr 0 0), .sl (encI l)] ⟨[], [(0, .box TO [vI u, x])], [], 1, 0⟩ (fun r st' => r = .tup [vI (wAt l n), vI (wCode l)] ∧ st' = ⟨[], [(0, .box TO (if wCode l = 0 then [vI u', x'] else [vI u, x]))], [], 1, 0⟩) := by
  refine OkI.of_pwp (by kernel_rfl) Try.func15 rfl (by kernel_rfl) (by kernel_rfl) ?_
  simp (implicitDefEqProofs := false) (disch := omega) only [go_sem, reduceCtorEq, Nat.reduceEqDiff, Nat.reduceBEq, ↓reduceIte, Nat.reduceGT, Nat.reduceAdd, Int.reduceEq, Int.reduceLT, Int.reduceLE, Int.reduceNeg, Int.reduceAdd, Int.reduceSub, Int.reduceMul, Int.reduceDiv, Int.reduceMod, Nat.reduceLT, Nat.reduceLeDiff, Nat.reduceMul, Nat.reduceSub, Int.reduceToNat, go_sem, Nat.le_refl, encI_len, ↓ix_enc, Int.toNat_natCast, Try.results15, hr1, hr2]
  refine p_loop (ι := { i : Nat // i ≤ l.length ∧ okT l i ∧ (0 < i → l.length ≤ 64) }) (fun i => ⟨[(14, vI i.1), (13, vI l.length), (12, .sl (encI l)), (6, vI (sumT l i.1)), (1, .sl (encI l)), (0, .iface T (.ptr 0 0))], [(0, .box TO [vI u, x])], [], 1, 0⟩) (fun i => l.length - i.1) ⟨0, Nat.zero_le _, (fun j hj => by omega), fun h => by omega⟩ ?_ ?_
  · refine ⟨?_, ?_, ?_, ?_, ?_, ?_, ?_⟩ <;> simp only [mem_cons_, mem_nil_, lkp, hold_eq, b_some, frz_self, frz1_self, frzL_self, frzO_self, frzO_box, frzO_iter, frzL_cons, frzL_nil, frz_agg, frz1_row, frz1_nil, frz1_val, frz1_sl, frz1_rr, frz1_ptr, frz1_ms, frz_val, frz_sl, frz_row, frz_ptr, frz_ms, frz_fp, frz_tup, frz_fn, PV.lt, PV.ltL, PObj.lt, decide_true, Bool.true_and, Bool.and_true, Bool.and_self, Nat.reduceLT, Nat.reduceLeDiff, Nat.reduceEqDiff, if_true, if_false, ↓reduceIte, and_true, true_and, Nat.zero_le, reduceCtorEq, eq_self, decide_eq_true_eq, Int.natCast_zero, sumT_zero, hx] <;> try first | omega | ((repeat' (first | exact And.intro rfl (by omega) | (refine And.intro ?_ ?_))) <;> first | rfl | omega | (congr 3; omega) | (congr 2; omega))
  · rintro ⟨i, h1, h2, h3⟩
    simp only
    have hs := sumT_range h1 h2
    by_cases hi : i < l.length
    · by_cases k1 : l.getD i 0 < 1
      · have hc := wCode_bad hi (.inl (by omega))
        simp (implicitDefEqProofs := false) (disch := omega) only [go_sem, reduceCtorEq, Nat.reduceEqDiff, Nat.reduceBEq, ↓reduceIte, Nat.reduceGT, Nat.reduceAdd, Int.reduceEq, Int.reduceLT, Int.reduceLE, Int.reduceNeg, Int.reduceAdd, Int.reduceSub, Int.reduceMul, Int.reduceDiv, Int.reduceMod, Nat.reduceLT, Nat.reduceLeDiff, Nat.reduceMul, Nat.reduceSub, Int.reduceToNat, go_sem, Nat.le_refl, encI_len, ↓ix_enc, Int.toNat_natCast, Try.results15, hr1, hr2]
        refine ⟨⟨[], [(0, .box TO [vI u, x])], [], 1, 0⟩, ⟨by rw [wAt, hc]; rfl, by rw [hc]; rfl⟩, ?_⟩
        refine ⟨?_, ?_, ?_, ?_, ?_, ?_, ?_⟩ <;> simp only [mem_cons_, mem_nil_, lkp, hold_eq, b_some, frz_self, frz1_self, frzL_self, frzO_self, frzO_box, frzO_iter, frzL_cons, frzL_nil, frz_agg, frz1_row, frz1_nil, frz1_val, frz1_sl, frz1_rr, frz1_ptr, frz1_ms, frz_val, frz_sl, frz_row, frz_ptr, frz_ms, frz_fp, frz_tup, frz_fn, PV.lt, PV.ltL, PObj.lt, decide_true, Bool.true_and, Bool.and_true, Bool.and_self, Nat.reduceLT, Nat.reduceLeDiff, Nat.reduceEqDiff, if_true, if_false, ↓reduceIte, and_true, true_and, Nat.zero_le, reduceCtorEq, eq_self, decide_eq_true_eq, hx] <;> try first | omega | ((repeat' (first | exact And.intro rfl (by omega) | (refine And.intro ?_ ?_))) <;> first | rfl | omega | (congr 3; omega) | (congr 2; omega))
      by_cases k2 : 1000 < l.getD i 0
      · have hc := wCode_bad hi (.inl (by omega))
        simp (implicitDefEqProofs := false) (disch := omega) only [go_sem, reduceCtorEq, Nat.reduceEqDiff, Nat.reduceBEq, ↓reduceIte, Nat.reduceGT, Nat.reduceAdd, Int.reduceEq, Int.reduceLT, Int.reduceLE, Int.reduceNeg, Int.reduceAdd, Int.reduceSub, Int.reduceMul, Int.reduceDiv, Int.reduceMod, Nat.reduceLT, Nat.reduceLeDiff, Nat.reduceMul, Nat.reduceSub, Int.reduceToNat, go_sem, Nat.le_refl, encI_len, ↓ix_enc, Int.toNat_natCast, Try.results15, hr1, hr2]
        refine ⟨⟨[], [(0, .box TO [vI u, x])], [], 1, 0⟩, ⟨by rw [wAt, hc]; rfl, by rw [hc]; rfl⟩, ?_⟩
        refine ⟨?_, ?_, ?_, ?_, ?_, ?_, ?_⟩ <;> simp only [mem_cons_, mem_nil_, lkp, hold_eq, b_some, frz_self, frz1_self, frzL_self, frzO_self, frzO_box, frzO_iter, frzL_cons, frzL_nil, frz_agg, frz1_row, frz1_nil, frz1_val, frz1_sl, frz1_rr, frz1_ptr, frz1_ms, frz_val, frz_sl, frz_row, frz_ptr, frz_ms, frz_fp, frz_tup, frz_fn, PV.lt, PV.ltL, PObj.lt, decide_true, Bool.true_and, Bool.and_true, Bool.and_self, Nat.reduceLT, Nat.reduceLeDiff, Nat.reduceEqDiff, if_true, if_false, ↓reduceIte, and_true, true_and, Nat.zero_le, reduceCtorEq, eq_self, decide_eq_true_eq, hx] <;> try first | omega | ((repeat' (first | exact And.intro rfl (by omega) | (refine And.intro ?_ ?_))) <;> first | rfl | omega | (congr 3; omega) | (congr 2; omega))
      by_cases k3 : 64 < l.length
      · have hc := wCode_bad hi (.inr k3)
        have k3' : (64 : Int) < l.length := by omega
        simp (implicitDefEqProofs := false) (disch := omega) only [go_sem, reduceCtorEq, Nat.reduceEqDiff, Nat.reduceBEq, ↓reduceIte, Nat.reduceGT, Nat.reduceAdd, Int.reduceEq, Int.reduceLT, Int.reduceLE, Int.reduceNeg, Int.reduceAdd, Int.reduceSub, Int.reduceMul, Int.reduceDiv, Int.reduceMod, Nat.reduceLT, Nat.reduceLeDiff, Nat.reduceMul, Nat.reduceSub, Int.reduceToNat, go_sem, Nat.le_refl, encI_len, ↓ix_enc, Int.toNat_natCast, Try.results15, hr1, hr2]
        refine ⟨⟨[], [(0, .box TO [vI u, x])], [], 1, 0⟩, ⟨by rw [wAt, hc]; rfl, by rw [hc]; rfl⟩, ?_⟩
        refine ⟨?_, ?_, ?_, ?_, ?_, ?_, ?_⟩ <;> simp only [mem_cons_, mem_nil_, lkp, hold_eq, b_some, frz_self, frz1_self, frzL_self, frzO_self, frzO_box, frzO_iter, frzL_cons, frzL_nil, frz_agg, frz1_row, frz1_nil, frz1_val, frz1_sl, frz1_rr, frz1_ptr, frz1_ms, frz_val, frz_sl, frz_row, frz_ptr, frz_ms, frz_fp, frz_tup, frz_fn, PV.lt, PV.ltL, PObj.lt, decide_true, Bool.true_and, Bool.and_true, Bool.and_self, Nat.reduceLT, Nat.reduceLeDiff, Nat.reduceEqDiff, if_true, if_false, ↓reduceIte, and_true, true_and, Nat.zero_le, reduceCtorEq, eq_self, decide_eq_true_eq, hx] <;> try first | omega | ((repeat' (first | exact And.intro rfl (by omega) | (refine And.intro ?_ ?_))) <;> first | rfl | omega | (congr 3; omega) | (congr 2; omega))
      have k3' : ¬ (64 : Int) < l.length := by omega
      simp (implicitDefEqProofs := false) (disch := omega) only [go_sem, reduceCtorEq, Nat.reduceEqDiff, Nat.reduceBEq, ↓reduceIte, Nat.reduceGT, Nat.reduceAdd, Int.reduceEq, Int.reduceLT, Int.reduceLE, Int.reduceNeg, Int.reduceAdd, Int.reduceSub, Int.reduceMul, Int.reduceDiv, Int.reduceMod, Nat.reduceLT, Nat.reduceLeDiff, Nat.reduceMul, Nat.reduceSub, Int.reduceToNat, go_sem, Nat.le_refl, encI_len, ↓ix_enc, Int.toNat_natCast, Try.results15, hr1, hr2]
      refine ⟨⟨i + 1, hi, okT_succ h2 ⟨by omega, by omega⟩, fun _ => by omega⟩, by simp only; omega, ?_⟩
      simp only [sumT_succ hi]
      refine ⟨?_, ?_, ?_, ?_, ?_, ?_, ?_⟩ <;> simp only [mem_cons_, mem_nil_, lkp, hold_eq, b_some, frz_self, frz1_self, frzL_self, frzO_self, frzO_box, frzO_iter, frzL_cons, frzL_nil, frz_agg, frz1_row, frz1_nil, frz1_val, frz1_sl, frz1_rr, frz1_ptr, frz1_ms, frz_val, frz_sl, frz_row, frz_ptr, frz_ms, frz_fp, frz_tup, frz_fn, PV.lt, PV.ltL, PObj.lt, decide_true, Bool.true_and, Bool.and_true, Bool.and_self, Nat.reduceLT, Nat.reduceLeDiff, Nat.reduceEqDiff, if_true, if_false, ↓reduceIte, and_true, true_and, Nat.zero_le, reduceCtorEq, eq_self, decide_eq_true_eq, Int.natCast_add, Int.natCast_one, hx] <;> try first | omega | ((repeat' (first | exact And.intro rfl (by omega) | (refine And.intro ?_ ?_))) <;> first | rfl | omega | (congr 3; omega) | (congr 2; omega))
    · have hi' : i = l.length := by omega
      subst hi'
      by_cases h0 : l.length = 0
      · have hc := wCode_nil h0
        have h0' : sumT l l.length = 0 := by rw [h0, sumT_zero]
        simp (implicitDefEqProofs := false) (disch := omega) only [go_sem, reduceCtorEq, Nat.reduceEqDiff, Nat.reduceBEq, ↓reduceIte, Nat.reduceGT, Nat.reduceAdd, Int.reduceEq, Int.reduceLT, Int.reduceLE, Int.reduceNeg, Int.reduceAdd, Int.reduceSub, Int.reduceMul, Int.reduceDiv, Int.reduceMod, Nat.reduceLT, Nat.reduceLeDiff, Nat.reduceMul, Nat.reduceSub, Int.reduceToNat, go_sem, Nat.le_refl, encI_len, ↓ix_enc, Int.toNat_natCast, Try.results15, hr1, hr2]
        refine ⟨⟨[], [(0, .box TO [vI u, x])], [], 1, 0⟩, ⟨by rw [wAt, hc]; rfl, by rw [hc]; rfl⟩, ?_⟩
        refine ⟨?_, ?_, ?_, ?_, ?_, ?_, ?_⟩ <;> simp only [mem_cons_, mem_nil_, lkp, hold_eq, b_some, frz_self, frz1_self, frzL_self, frzO_self, frzO_box, frzO_iter, frzL_cons, frzL_nil, frz_agg, frz1_row, frz1_nil, frz1_val, frz1_sl, frz1_rr, frz1_ptr, frz1_ms, frz_val, frz_sl, frz_row, frz_ptr, frz_ms, frz_fp, frz_tup, frz_fn, PV.lt, PV.ltL, PObj.lt, decide_true, Bool.true_and, Bool.and_true, Bool.and_self, Nat.reduceLT, Nat.reduceLeDiff, Nat.reduceEqDiff, if_true, if_false, ↓reduceIte, and_true, true_and, Nat.zero_le, reduceCtorEq, eq_self, decide_eq_true_eq, hx] <;> try first | omega | ((repeat' (first | exact And.intro rfl (by omega) | (refine And.intro ?_ ?_))) <;> first | rfl | omega | (congr 3; omega) | (congr 2; omega))
      have h0' : ¬ sumT l l.length = 0 := by omega
      have hc := wCode_good (by omega) h2 (h3 (by omega))
      simp (implicitDefEqProofs := false) (disch := omega) only [go_sem, reduceCtorEq, Nat.reduceEqDiff, Nat.reduceBEq, ↓reduceIte, Nat.reduceGT, Nat.reduceAdd, Int.reduceEq, Int.reduceLT, Int.reduceLE, Int.reduceNeg, Int.reduceAdd, Int.reduceSub, Int.reduceMul, Int.reduceDiv, Int.reduceMod, Nat.reduceLT, Nat.reduceLeDiff, Nat.reduceMul, Nat.reduceSub, Int.reduceToNat, go_sem, Nat.le_refl, encI_len, ↓ix_enc, Int.toNat_natCast, Try.results15, hr1, hr2]
      refine InvOk.of hd (OkI.frame1 (st := ⟨[], _, _, _, _⟩) (a := 0) c (by simp only; omega) (by simp only [PObj.lt, PV.ltL, PV.lt, hx, Bool.and_self]) (by simp only [lkp, if_true, PObj.rn, PV.rnL, PV.rn, hr1]) rfl rfl) rfl rfl rfl rfl ?_
      rintro r st1 ⟨r0, s, ⟨rfl, rfl⟩, rfl, rfl⟩
      simp (implicitDefEqProofs := false) (disch := omega) only [go_sem, reduceCtorEq, Nat.reduceEqDiff, Nat.reduceBEq, ↓reduceIte, Nat.reduceGT, Nat.reduceAdd, Int.reduceEq, Int.reduceLT, Int.reduceLE, Int.reduceNeg, Int.reduceAdd, Int.reduceSub, Int.reduceMul, Int.reduceDiv, Int.reduceMod, Nat.reduceLT, Nat.reduceLeDiff, Nat.reduceMul, Nat.reduceSub, Int.reduceToNat, go_sem, Nat.le_refl, encI_len, ↓ix_enc, Int.toNat_natCast, Try.results15, hr1, hr2]
      have hw : wAt l n = wFind (l.drop 0) n 0 := by rw [wAt, if_pos hc]; rfl
      have hn := hn hc
      refine p_loop (ι := { p : Nat × Int // p.1 ≤ l.length ∧ p.2 ≤ 1000000 ∧ -1000000 ≤ p.2 ∧ wFind (l.drop p.1) p.2 p.1 = wAt l n ∧ p.2 = n - sumT l p.1 }) (fun p => ⟨[(40, vI p.1.1), (39, vI l.length), (38, .sl (encI l)), (9, vI p.1.2)], [(0, .box TO [vI u', x'])], [], 1, 0⟩) (fun p => l.length - p.1.1) ⟨(0, n), Nat.zero_le _, hn.2, by simp only; omega, hw.symm, by rw [sumT_zero]; simp⟩ ?_ ?_
      · refine ⟨?_, ?_, ?_, ?_, ?_, ?_, ?_⟩ <;> simp only [mem_cons_, mem_nil_, lkp, hold_eq, b_some, frz_self, frz1_self, frzL_self, frzO_self, frzO_box, frzO_iter, frzL_cons, frzL_nil, frz_agg, frz1_row, frz1_nil, frz1_val, frz1_sl, frz1_rr, frz1_ptr, frz1_ms, frz_val, frz_sl, frz_row, frz_ptr, frz_ms, frz_fp, frz_tup, frz_fn, PV.lt, PV.ltL, PObj.lt, decide_true, Bool.true_and, Bool.and_true, Bool.and_self, Nat.reduceLT, Nat.reduceLeDiff, Nat.reduceEqDiff, if_true, if_false, ↓reduceIte, and_true, true_and, Nat.zero_le, reduceCtorEq, eq_self, decide_eq_true_eq, Int.natCast_zero, hx'] <;> try first | omega | ((repeat' (first | exact And.intro rfl (by omega) | (refine And.intro ?_ ?_))) <;> first | rfl | omega | (congr 3; omega) | (congr 2; omega))
      · rintro ⟨⟨j, r⟩, g1, g2, g3, g4, g5⟩
        simp only at g1 g2 g3 g4 g5 ⊢
        by_cases hj : j < l.length
        · have k := h2 j hj
          by_cases hr : r < l.getD j 0
          · simp (implicitDefEqProofs := false) (disch := omega) only [go_sem, reduceCtorEq, Nat.reduceEqDiff, Nat.reduceBEq, ↓reduceIte, Nat.reduceGT, Nat.reduceAdd, Int.reduceEq, Int.reduceLT, Int.reduceLE, Int.reduceNeg, Int.reduceAdd, Int.reduceSub, Int.reduceMul, Int.reduceDiv, Int.reduceMod, Nat.reduceLT, Nat.reduceLeDiff, Nat.reduceMul, Nat.reduceSub, Int.reduceToNat, go_sem, Nat.le_refl, encI_len, ↓ix_enc, Int.toNat_natCast, Try.results15, hr1, hr2]
            rw [wFind_lt hj hr] at g4
            refine ⟨⟨[], [(0, .box TO [vI u', x'])], [], 1, 0⟩, ⟨by rw [hc, ← g4], by rw [hc]; rfl⟩, ?_⟩
            refine ⟨?_, ?_, ?_, ?_, ?_, ?_, ?_⟩ <;> simp only [mem_cons_, mem_nil_, lkp, hold_eq, b_some, frz_self, frz1_self, frzL_self, frzO_self, frzO_box, frzO_iter, frzL_cons, frzL_nil, frz_agg, frz1_row, frz1_nil, frz1_val, frz1_sl, frz1_rr, frz1_ptr, frz1_ms, frz_val, frz_sl, frz_row, frz_ptr, frz_ms, frz_fp, frz_tup, frz_fn, PV.lt, PV.ltL, PObj.lt, decide_true, Bool.true_and, Bool.and_true, Bool.and_self, Nat.reduceLT, Nat.reduceLeDiff, Nat.reduceEqDiff, if_true, if_false, ↓reduceIte, and_true, true_and, Nat.zero_le, reduceCtorEq, eq_self, decide_eq_true_eq, hx'] <;> try first | omega | ((repeat' (first | exact And.intro rfl (by omega) | (refine And.intro ?_ ?_))) <;> first | rfl | omega | (congr 3; omega) | (congr 2; omega))
          · rw [wFind_ge hj hr] at g4
            have hs2 := sumT_range (show j + 1 ≤ l.length by omega) (fun i hi => h2 i (by omega))
            rw [sumT_succ hj] at hs2
            simp (implicitDefEqProofs := false) (disch := omega) only [go_sem, reduceCtorEq, Nat.reduceEqDiff, Nat.reduceBEq, ↓reduceIte, Nat.reduceGT, Nat.reduceAdd, Int.reduceEq, Int.reduceLT, Int.reduceLE, Int.reduceNeg, Int.reduceAdd, Int.reduceSub, Int.reduceMul, Int.reduceDiv, Int.reduceMod, Nat.reduceLT, Nat.reduceLeDiff, Nat.reduceMul, Nat.reduceSub, Int.reduceToNat, go_sem, Nat.le_refl, encI_len, ↓ix_enc, Int.toNat_natCast, Try.results15, hr1, hr2]
            refine ⟨⟨(j + 1, r - l.getD j 0), hj, by simp only; omega, by simp only; omega, by simpa using g4, by rw [sumT_succ hj]; simp only; omega⟩, by simp only; omega, ?_⟩
            refine ⟨?_, ?_, ?_, ?_, ?_, ?_, ?_⟩ <;> simp only [mem_cons_, mem_nil_, lkp, hold_eq, b_some, frz_self, frz1_self, frzL_self, frzO_self, frzO_box, frzO_iter, frzL_cons, frzL_nil, frz_agg, frz1_row, frz1_nil, frz1_val, frz1_sl, frz1_rr, frz1_ptr, frz1_ms, frz_val, frz_sl, frz_row, frz_ptr, frz_ms, frz_fp, frz_tup, frz_fn, PV.lt, PV.ltL, PObj.lt, decide_true, Bool.true_and, Bool.and_true, Bool.and_self, Nat.reduceLT, Nat.reduceLeDiff, Nat.reduceEqDiff, if_true, if_false, ↓reduceIte, and_true, true_and, Nat.zero_le, reduceCtorEq, eq_self, decide_eq_true_eq, Int.natCast_add, Int.natCast_one, hx'] <;> try first | omega | ((repeat' (first | exact And.intro rfl (by omega) | (refine And.intro ?_ ?_))) <;> first | rfl | omega | (congr 3; omega) | (congr 2; omega))
        · have hj' : j = l.length := by omega
          subst hj'
          rw [List.drop_length, wFind] at g4
          simp (implicitDefEqProofs := false) (disch := omega) only [go_sem, reduceCtorEq, Nat.reduceEqDiff, Nat.reduceBEq, ↓reduceIte, Nat.reduceGT, Nat.reduceAdd, Int.reduceEq, Int.reduceLT, Int.reduceLE, Int.reduceNeg, Int.reduceAdd, Int.reduceSub, Int.reduceMul, Int.reduceDiv, Int.reduceMod, Nat.reduceLT, Nat.reduceLeDiff, Nat.reduceMul, Nat.reduceSub, Int.reduceToNat, go_sem, Nat.le_refl, encI_len, ↓ix_enc, Int.toNat_natCast, Try.results15, hr1, hr2]
          refine ⟨⟨[], [(0, .box TO [vI u', x'])], [], 1, 0⟩, ⟨by rw [hc, ← g4], by rw [hc]; rfl⟩, ?_⟩
          refine ⟨?_, ?_, ?_, ?_, ?_, ?_, ?_⟩ <;> simp only [mem_cons_, mem_nil_, lkp, hold_eq, b_some, frz_self, frz1_self, frzL_self, frzO_self, frzO_box, frzO_iter, frzL_cons, frzL_nil, frz_agg, frz1_row, frz1_nil, frz1_val, frz1_sl, frz1_rr, frz1_ptr, frz1_ms, frz_val, frz_sl, frz_row, frz_ptr, frz_ms, frz_fp, frz_tup, frz_fn, PV.lt, PV.ltL, PObj.lt, decide_true, Bool.true_and, Bool.and_true, Bool.and_self, Nat.reduceLT, Nat.reduceLeDiff, Nat.reduceEqDiff, if_true, if_false, ↓reduceIte, and_true, true_and, Nat.zero_le, reduceCtorEq, eq_self, decide_eq_true_eq, hx'] <;> try first | omega | ((repeat' (first | exact And.intro rfl (by omega) | (refine And.intro ?_ ?_))) <;> first | rfl | omega | (congr 3; omega) | (congr 2; omega))
theorem scN_nn (l : List Int) (u b : Int) (h : 0 < b) : 0 ≤ scN l u b ∧ scN l u b < b := by
  unfold scN
  have b1 := Int.lt_tmod_of_pos (l.getD u.toNat 0) h
  have b2 := Int.tmod_lt_of_pos (l.getD u.toNat 0) h
  split
  · split
    · omega
    · split <;> omega
  · omega
theorem mxN_nn (z b : Int) (h : 0 < b) : 0 ≤ mxN z b ∧ mxN z b < b := by
  unfold mxN
  split
  · exact ⟨Int.tmod_nonneg _ (mixF_nn _).1, Int.tmod_lt_of_pos _ h⟩
  · omega
theorem usedW (u b : Int) : u ≤ usedN u b ∧ usedN u b ≤ u + 1 := by unfold usedN; split <;> omega
theorem mxS_rg {z : Int} (b : Int) (h : 0 ≤ z ∧ z ≤ 18446744073709551615) : 0 ≤ mxS z b ∧ mxS z b ≤ 18446744073709551615 := by
  unfold mxS
  split
  · exact wU _
  · exact h
theorem weighS_I (l : List Int) (nums : List Int) (u : Int) (hl : l.length ≤ 1000) (hN : nums.length ≤ 1000000) (hu : 0 ≤ u ∧ u ≤ 1000000) :
    OkI Try.prog 15 [.iface 59 (.ptr 0 0), .sl (encI l)] ⟨[], [(0, .box 64 [vI u, .sl (encI nums)])], [], 1, 0⟩ (fun r st' => r = .tup [vI (wAt l (scN nums u (sumT l l.length))), vI (wCode l)] ∧ st' = ⟨[], [(0, .box 64 [vI (if wCode l = 0 then usedN u (sumT l l.length) else u), .sl (encI nums)])], [], 1, 0⟩) := by
  have h := weigh_I 59 64 43 u (usedN u (sumT l l.length)) (scN nums u (sumT l l.length)) (.sl (encI nums)) (.sl (encI nums)) l d1 (fun _ _ => rfl) (fun _ _ => rfl) (fun _ _ => rfl) (fun _ _ => rfl) hl (fun k => by have := sum_good k; have := scN_nn nums u (sumT l l.length) (by omega); omega) (snext_I nums u _ hN hu)
  by_cases k : wCode l = 0
  · rw [if_pos k] at h; rw [if_pos k]; exact h
  · rw [if_neg k] at h; rw [if_neg k]; exact h
theorem weighM_I (l : List Int) (z u : Int) (hl : l.length ≤ 1000) (hz : 0 ≤ z ∧ z ≤ 18446744073709551615) (hu : 0 ≤ u ∧ u ≤ 1000000) :
    OkI Try.prog 15 [.iface 65 (.ptr 0 0), .sl (encI l)] ⟨[], [(0, .box 67 [vI u, vU z])], [], 1, 0⟩ (fun r st' => r = .tup [vI (wAt l (mxN z (sumT l l.length))), vI (wCode l)] ∧ st' = ⟨[], [(0, .box 67 [vI (if wCode l = 0 then usedN u (sumT l l.length) else u), vU (if wCode l = 0 then mxS z (sumT l l.length) else z)])], [], 1, 0⟩) := by
  have h := weigh_I 65 67 46 u (usedN u (sumT l l.length)) (mxN z (sumT l l.length)) (vU z) (vU (mxS z (sumT l l.length))) l d3 (fun _ _ => rfl) (fun _ _ => rfl) (fun _ _ => rfl) (fun _ _ => rfl) hl (fun k => by have := sum_good k; have := mxN_nn z (sumT l l.length) (by omega); omega) (mnext_I z u _ hz hu)
  by_cases k : wCode l = 0
  · rw [if_pos k] at h; rw [if_pos k, if_pos k]; exact h
  · rw [if_neg k] at h; rw [if_neg k, if_neg k]; exact h
theorem rweighS_ok (l : List Int) (nums : List Int) (u : Int) (hl : l.length ≤ 1000) (hN : nums.length ≤ 1000000) (hu : 0 ≤ u ∧ u ≤ 1000000) :
    Ok Try.prog 17 [.agg [.sl (encI nums), vB false, vU 0, vI u], .sl (encI l)] (.tup [.agg [.sl (encI nums), vB false, vU 0, vI (if wCode l = 0 then usedN u (sumT l l.length) else u)], vI (wAt l (scN nums u (sumT l l.length))), vI (wCode l)]) := by
  have h := rweigh_ok2 l (encI nums) false 0 0 u _ _ hl (fun k => by have := sum_good k; have := scN_nn nums u (sumT l l.length) (by omega); omega) (rnextS_ok nums 0 u (sumT l l.length) hN hu)
  simpa using h
theorem rweighM_ok (l : List Int) (z u : Int) (hl : l.length ≤ 1000) (hz : 0 ≤ z ∧ z ≤ 18446744073709551615) (hu : 0 ≤ u ∧ u ≤ 1000000) :
    Ok Try.prog 17 [.agg [.sl [], vB true, vU z, vI u], .sl (encI l)] (.tup [.agg [.sl [], vB true, vU (if wCode l = 0 then mxS z (sumT l l.length) else z), vI (if wCode l = 0 then usedN u (sumT l l.length) else u)], vI (wAt l (mxN z (sumT l l.length))), vI (wCode l)]) :=
  rweigh_ok2 l [] true z _ u _ _ hl (fun k => by have := sum_good k; have := mxN_nn z (sumT l l.length) (by omega); omega) (rnextM_ok z u (sumT l l.length) hz hu)
theorem encW_len (l : List (List Int)) : (encW l).length = l.length := by simp [encW]
theorem ix_W {a : List (List Int)} {i : Int} {K : PV → Prop} (h0 : 0 ≤ i) (h1 : i < (a.length : Int)) : ixP 1 i K (.sl (encW a)) = K (.fp [.sl (encI (a.getD i.toNat []))]) := by
  have h : i.toNat < a.length := by omega
  have e : (encW a).getD i.toNat [] = [.sl (encI (a.getD i.toNat []))] := by simp [encW, h, List.getD_eq_getElem?_getD]
  simp only [ixP, e, encW_len, List.length_singleton, h0, h1, true_and]
end Go.Proofs.Ytmenmfibpbpblaa
