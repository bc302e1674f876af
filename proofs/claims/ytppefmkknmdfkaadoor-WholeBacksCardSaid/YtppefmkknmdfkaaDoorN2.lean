/-
  Contracts and plain laws on the way to the statement; each says its own conditions.
-/
import Derived.Test.YtppefmkknmdfkaaDoorN1
open Go Go.Proofs Go.Pw
namespace Go.Proofs.YtppefmkknmdfkaaDoor
set_option maxRecDepth 4000
set_option linter.unusedSimpArgs false
set_option linter.unusedVariables false
def cleanTo (a : List Int) : Nat → Nat
  | 0 => 0
  | i + 1 => if a.getD i 0 = 0 then cleanTo a i else i + 1
set_option maxHeartbeats 1000000 in
theorem clean_ok (b : Bool) (a : List Int) (ha : a.length ≤ 1000000) : Ok Tryd.prog 25 [.agg [vB b, .sl (encI a)]] (.agg [vB (b && decide (0 < cleanTo a a.length)), .sl (encI (a.take (cleanTo a a.length)))]) := by
  refine Ok.of_pwp (by kernel_rfl) Tryd.func25 rfl (by kernel_rfl) (by kernel_rfl) ?_
  have key : ∀ n, cleanTo a (n + 1) = if a.getD n 0 = 0 then cleanTo a n else n + 1 := fun n => rfl
  simp (implicitDefEqProofs := false) (disch := omega) only [go_sem, reduceCtorEq, Nat.reduceEqDiff, Nat.reduceBEq, ↓reduceIte, Nat.reduceGT, Nat.reduceAdd, Int.reduceEq, Int.reduceLT, Int.reduceLE, Int.reduceNeg, Int.reduceAdd, Int.reduceSub, Int.reduceMul, Int.reduceDiv, Int.reduceMod, Nat.reduceLT, Nat.reduceLeDiff, Nat.reduceMul, Nat.reduceSub, Int.reduceToNat, go_sem, Nat.le_refl, ↓ix_enc, encI_len, encI_take, Tryd.results25]
  refine p_loop (ι := { i : Int // 0 ≤ i ∧ i ≤ a.length ∧ cleanTo a a.length = cleanTo a i.toNat }) (fun i => ⟨[(3, vI i.1), (2, .ptr 1 0), (1, .ptr 0 0)], [(1, .box 28 [vB false, .val (.slice none 0 0)]), (0, .box 28 [vB b, .sl (encI a)])], [], 2, 0⟩) (fun i => i.1.toNat)
      ⟨(a.length : Int), by omega, by omega, by congr 1⟩ ?_ ?_
  · refine ⟨?_, ?_, ?_, ?_, ?_, ?_, ?_⟩ <;> simp only [mem_cons_, mem_nil_, lkp, hold_eq, b_some, frz_self, frz1_self, frzL_self, frzO_self, frzO_box, frzO_iter, frzL_cons, frzL_nil, frz_agg, frz1_row, frz1_nil, frz1_val, frz1_sl, frz1_rr, frz1_ptr, frz1_ms, frz_val, frz_sl, frz_row, frz_ptr, frz_ms, frz_fp, frz_tup, frz_fn, PV.lt, PV.ltL, PObj.lt, decide_true, Bool.true_and, Bool.and_true, Bool.and_self, Nat.reduceLT, Nat.reduceLeDiff, Nat.reduceEqDiff, if_true, if_false, ↓reduceIte, and_true, true_and, Nat.zero_le, reduceCtorEq, eq_self]
  · rintro ⟨i, h0, h1, h2⟩
    cases b
    all_goals
      simp (implicitDefEqProofs := false) (disch := omega) only [go_sem, reduceCtorEq, Nat.reduceEqDiff, Nat.reduceBEq, ↓reduceIte, Nat.reduceGT, Nat.reduceAdd, Int.reduceEq, Int.reduceLT, Int.reduceLE, Int.reduceNeg, Int.reduceAdd, Int.reduceSub, Int.reduceMul, Int.reduceDiv, Int.reduceMod, Nat.reduceLT, Nat.reduceLeDiff, Nat.reduceMul, Nat.reduceSub, Int.reduceToNat, go_sem, Nat.le_refl, ↓ix_enc, encI_len, encI_take, Tryd.results25]
      with_reducible refine ifK_split (fun _ => ?_) (fun _ => ?_)
      · have e := key (i - 1).toNat
        rw [show (i - 1).toNat + 1 = i.toNat by omega, ← h2] at e
        simp (implicitDefEqProofs := false) (disch := omega) only [go_sem, reduceCtorEq, Nat.reduceEqDiff, Nat.reduceBEq, ↓reduceIte, Nat.reduceGT, Nat.reduceAdd, Int.reduceEq, Int.reduceLT, Int.reduceLE, Int.reduceNeg, Int.reduceAdd, Int.reduceSub, Int.reduceMul, Int.reduceDiv, Int.reduceMod, Nat.reduceLT, Nat.reduceLeDiff, Nat.reduceMul, Nat.reduceSub, Int.reduceToNat, go_sem, Nat.le_refl, ↓ix_enc, encI_len, encI_take, Tryd.results25]
        with_reducible refine ifK_split (fun heq => ?_) (fun hne => ?_)
        · simp (implicitDefEqProofs := false) (disch := omega) only [go_sem, reduceCtorEq, Nat.reduceEqDiff, Nat.reduceBEq, ↓reduceIte, Nat.reduceGT, Nat.reduceAdd, Int.reduceEq, Int.reduceLT, Int.reduceLE, Int.reduceNeg, Int.reduceAdd, Int.reduceSub, Int.reduceMul, Int.reduceDiv, Int.reduceMod, Nat.reduceLT, Nat.reduceLeDiff, Nat.reduceMul, Nat.reduceSub, Int.reduceToNat, go_sem, Nat.le_refl, ↓ix_enc, encI_len, encI_take, Tryd.results25]
          refine ⟨⟨i - 1, by omega, by omega, ?_⟩, by simp only []; omega, ?_⟩
          · rw [e, if_pos heq]
          · refine ⟨?_, ?_, ?_, ?_, ?_, ?_, ?_⟩ <;> simp only [mem_cons_, mem_nil_, lkp, hold_eq, b_some, frz_self, frz1_self, frzL_self, frzO_self, frzO_box, frzO_iter, frzL_cons, frzL_nil, frz_agg, frz1_row, frz1_nil, frz1_val, frz1_sl, frz1_rr, frz1_ptr, frz1_ms, frz_val, frz_sl, frz_row, frz_ptr, frz_ms, frz_fp, frz_tup, frz_fn, PV.lt, PV.ltL, PObj.lt, decide_true, Bool.true_and, Bool.and_true, Bool.and_self, Nat.reduceLT, Nat.reduceLeDiff, Nat.reduceEqDiff, if_true, if_false, ↓reduceIte, and_true, true_and, Nat.zero_le, reduceCtorEq, eq_self]
        · simp (implicitDefEqProofs := false) (disch := omega) only [go_sem, reduceCtorEq, Nat.reduceEqDiff, Nat.reduceBEq, ↓reduceIte, Nat.reduceGT, Nat.reduceAdd, Int.reduceEq, Int.reduceLT, Int.reduceLE, Int.reduceNeg, Int.reduceAdd, Int.reduceSub, Int.reduceMul, Int.reduceDiv, Int.reduceMod, Nat.reduceLT, Nat.reduceLeDiff, Nat.reduceMul, Nat.reduceSub, Int.reduceToNat, go_sem, Nat.le_refl, ↓ix_enc, encI_len, encI_take, Tryd.results25]
          rw [e, if_neg hne]
          have : decide (0 < i.toNat) = decide (0 < i) := decide_eq_decide.2 (by omega)
          simp [this]
      · simp (implicitDefEqProofs := false) (disch := omega) only [go_sem, reduceCtorEq, Nat.reduceEqDiff, Nat.reduceBEq, ↓reduceIte, Nat.reduceGT, Nat.reduceAdd, Int.reduceEq, Int.reduceLT, Int.reduceLE, Int.reduceNeg, Int.reduceAdd, Int.reduceSub, Int.reduceMul, Int.reduceDiv, Int.reduceMod, Nat.reduceLT, Nat.reduceLeDiff, Nat.reduceMul, Nat.reduceSub, Int.reduceToNat, go_sem, Nat.le_refl, ↓ix_enc, encI_len, encI_take, Tryd.results25]
        rw [h2, show i.toNat = 0 by omega]
        have : decide (0 < i) = false := decide_eq_false (by omega)
        simp [this, cleanTo]
end Go.Proofs.YtppefmkknmdfkaaDoor
