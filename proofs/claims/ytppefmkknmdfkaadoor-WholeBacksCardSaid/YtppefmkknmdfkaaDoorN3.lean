/-
  Contracts and plain laws on the way to the statement; each says its own conditions.
-/
import Derived.Test.YtppefmkknmdfkaaDoorN2
open Go Go.Proofs Go.Pw
namespace Go.Proofs.YtppefmkknmdfkaaDoor
set_option maxRecDepth 4000
set_option linter.unusedSimpArgs false
set_option linter.unusedVariables false
def figs (n : Nat) : List Int := if h : n = 0 then [] else (n % 10000 : Nat) :: figs (n / 10000)
def repN (z : Int) : PV := .agg [vB (decide (z < 0)), .sl (encI (figs z.natAbs))]
theorem figs_len : ∀ (k N : Nat), N < 10000 ^ k → (figs N).length ≤ k
  | 0, N, h => by
    have : N = 0 := by simpa using h
    subst this
    unfold figs
    simp
  | k + 1, N, h => by
    unfold figs
    split
    · simp
    · have := figs_len k (N / 10000) (by rw [Nat.pow_succ] at h; omega)
      simp only [List.length_cons]
      omega
theorem figs_step (N : Nat) (h : N ≠ 0) : figs N = ((N % 10000 : Nat) : Int) :: figs (N / 10000) := by
  rw [figs, dif_neg h]
def ofS (below : Bool) (m : Int) : List Int → PS
  | [] => ⟨[(0, vI m), (2, .ptr 0 0), (3, .ptr 4 0)], [(4, .box 28 [vB below, .val (.slice none 0 0)]), (0, .box 28 [vB false, .val (.slice none 0 0)])], [], 5, 6⟩
  | x :: r => ⟨[(0, vI m), (2, .ptr 0 0), (3, .ptr 4 0)], [(4, .box 28 [vB below, .row 18 (encI (x :: r))]), (0, .box 28 [vB false, .val (.slice none 0 0)])], [(18, ⟨3, 1, (x :: r).length⟩)], 5, 19⟩
theorem of_dig (m : Int) (h : -9223372036854775808 ≤ m) (h' : m ≤ 9223372036854775807) : (if IntKind.i64.wrap (0 - m.tmod 10000) > m.tmod 10000 then IntKind.i64.wrap (0 - m.tmod 10000) else m.tmod 10000) = ((m.natAbs % 10000 : Nat) : Int) := by
  have : m.tmod 10000 = if 0 ≤ m then m % 10000 else -((-m) % 10000) := by
    split
    · exact Int.tmod_eq_emod_of_nonneg (by assumption)
    · rw [← Int.tmod_eq_emod_of_nonneg (by omega), Int.neg_tmod]; omega
  rw [this]
  split <;> rw [wrap64 (by omega) (by omega)] <;> omega
theorem of_div (m : Int) : (m.tdiv 10000).natAbs = m.natAbs / 10000 := by
  rw [Int.natAbs_tdiv]; rfl
set_option maxHeartbeats 1000000 in
theorem of_ok (n : Int) (h1 : -9223372036854775808 ≤ n) (h2 : n ≤ 9223372036854775807) : Ok Tryd.prog 11 [vI n] (repN n) := by
  refine Ok.of_pwp (by kernel_rfl) Tryd.func11 rfl (by kernel_rfl) (by kernel_rfl) ?_
  have hl : (figs n.natAbs).length ≤ 5 := figs_len 5 _ (by omega)
  simp (implicitDefEqProofs := false) (disch := omega) only [go_sem, reduceCtorEq, Nat.reduceEqDiff, Nat.reduceBEq, ↓reduceIte, Nat.reduceGT, Nat.reduceAdd, Int.reduceEq, Int.reduceLT, Int.reduceLE, Int.reduceNeg, Int.reduceAdd, Int.reduceSub, Int.reduceMul, Int.reduceDiv, Int.reduceMod, Nat.reduceLT, Nat.reduceLeDiff, Nat.reduceMul, Nat.reduceSub, Int.reduceToNat, go_sem, Nat.le_refl, ↓ix_enc, encI_len, encI_take, Tryd.results11, tmodE, tdivE]
  refine p_loop (ι := { p : Int × List Int // -9223372036854775808 ≤ p.1 ∧ p.1 ≤ 9223372036854775807 ∧ figs n.natAbs = p.2 ++ figs p.1.natAbs }) (fun p => ofS (decide (n < 0)) p.1.1 p.1.2) (fun p => p.1.1.natAbs)
      ⟨(n, []), h1, h2, rfl⟩ ?_ ?_
  · simp only [ofS]
    refine ⟨?_, ?_, ?_, ?_, ?_, ?_, ?_⟩ <;> simp only [mem_cons_, mem_nil_, lkp, hold_eq, b_some, frz_self, frz1_self, frzL_self, frzO_self, frzO_box, frzO_iter, frzL_cons, frzL_nil, frz_agg, frz1_row, frz1_nil, frz1_val, frz1_sl, frz1_rr, frz1_ptr, frz1_ms, frz_val, frz_sl, frz_row, frz_ptr, frz_ms, frz_fp, frz_tup, frz_fn, PV.lt, PV.ltL, PObj.lt, decide_true, Bool.true_and, Bool.and_true, Bool.and_self, Nat.reduceLT, Nat.reduceLeDiff, Nat.reduceEqDiff, if_true, if_false, ↓reduceIte, and_true, true_and, Nat.zero_le, reduceCtorEq, eq_self]
  · rintro ⟨⟨m, xs⟩, k1, k2, k3⟩
    simp only at k1 k2 k3
    have hlen := congrArg List.length k3
    rw [List.length_append] at hlen
    have hq := of_div m
    have hw : IntKind.i64.wrap (m.tdiv 10000) = m.tdiv 10000 := wrap64 (by omega) (by omega)
    cases xs with
    | nil =>
      simp only [ofS]
      simp (implicitDefEqProofs := false) (disch := omega) only [go_sem, reduceCtorEq, Nat.reduceEqDiff, Nat.reduceBEq, ↓reduceIte, Nat.reduceGT, Nat.reduceAdd, Int.reduceEq, Int.reduceLT, Int.reduceLE, Int.reduceNeg, Int.reduceAdd, Int.reduceSub, Int.reduceMul, Int.reduceDiv, Int.reduceMod, Nat.reduceLT, Nat.reduceLeDiff, Nat.reduceMul, Nat.reduceSub, Int.reduceToNat, go_sem, Nat.le_refl, ↓ix_enc, encI_len, encI_take, Tryd.results11, tmodE, tdivE]
      with_reducible refine ifK_nsplit (fun hne => ?_) (fun heq => ?_)
      · simp (implicitDefEqProofs := false) (disch := omega) only [go_sem, reduceCtorEq, Nat.reduceEqDiff, Nat.reduceBEq, ↓reduceIte, Nat.reduceGT, Nat.reduceAdd, Int.reduceEq, Int.reduceLT, Int.reduceLE, Int.reduceNeg, Int.reduceAdd, Int.reduceSub, Int.reduceMul, Int.reduceDiv, Int.reduceMod, Nat.reduceLT, Nat.reduceLeDiff, Nat.reduceMul, Nat.reduceSub, Int.reduceToNat, go_sem, Nat.le_refl, ↓ix_enc, encI_len, encI_take, Tryd.results11, tmodE, tdivE]
        simp only [of_dig m k1 k2, hw, encI_one]
        refine ⟨⟨(m.tdiv 10000, [((m.natAbs % 10000 : Nat) : Int)]), by simp only []; omega, by simp only []; omega, ?_⟩, by simp only []; omega, ?_⟩
        · rw [k3, figs_step m.natAbs (by omega), hq]; rfl
        · simp only [List.length_nil, Nat.zero_add]
          refine ⟨?_, ?_, ?_, ?_, ?_, ?_, ?_⟩ <;> simp only [mem_cons_, mem_nil_, lkp, hold_eq, b_some, frz_self, frz1_self, frzL_self, frzO_self, frzO_box, frzO_iter, frzL_cons, frzL_nil, frz_agg, frz1_row, frz1_nil, frz1_val, frz1_sl, frz1_rr, frz1_ptr, frz1_ms, frz_val, frz_sl, frz_row, frz_ptr, frz_ms, frz_fp, frz_tup, frz_fn, PV.lt, PV.ltL, PObj.lt, decide_true, Bool.true_and, Bool.and_true, Bool.and_self, Nat.reduceLT, Nat.reduceLeDiff, Nat.reduceEqDiff, if_true, if_false, ↓reduceIte, and_true, true_and, Nat.zero_le, reduceCtorEq, eq_self]
      · simp (implicitDefEqProofs := false) (disch := omega) only [go_sem, reduceCtorEq, Nat.reduceEqDiff, Nat.reduceBEq, ↓reduceIte, Nat.reduceGT, Nat.reduceAdd, Int.reduceEq, Int.reduceLT, Int.reduceLE, Int.reduceNeg, Int.reduceAdd, Int.reduceSub, Int.reduceMul, Int.reduceDiv, Int.reduceMod, Nat.reduceLT, Nat.reduceLeDiff, Nat.reduceMul, Nat.reduceSub, Int.reduceToNat, go_sem, Nat.le_refl, ↓ix_enc, encI_len, encI_take, Tryd.results11, tmodE, tdivE]
        subst heq
        rw [repN, k3]
        simp [figs, encI]
    | cons x r =>
      simp only [List.length_cons] at hlen
      simp only [ofS]
      simp (implicitDefEqProofs := false) (disch := omega) only [go_sem, reduceCtorEq, Nat.reduceEqDiff, Nat.reduceBEq, ↓reduceIte, Nat.reduceGT, Nat.reduceAdd, Int.reduceEq, Int.reduceLT, Int.reduceLE, Int.reduceNeg, Int.reduceAdd, Int.reduceSub, Int.reduceMul, Int.reduceDiv, Int.reduceMod, Nat.reduceLT, Nat.reduceLeDiff, Nat.reduceMul, Nat.reduceSub, Int.reduceToNat, go_sem, Nat.le_refl, ↓ix_enc, encI_len, encI_take, Tryd.results11, tmodE, tdivE]
      with_reducible refine ifK_nsplit (fun hne => ?_) (fun heq => ?_)
      · simp (implicitDefEqProofs := false) (disch := omega) only [go_sem, reduceCtorEq, Nat.reduceEqDiff, Nat.reduceBEq, ↓reduceIte, Nat.reduceGT, Nat.reduceAdd, Int.reduceEq, Int.reduceLT, Int.reduceLE, Int.reduceNeg, Int.reduceAdd, Int.reduceSub, Int.reduceMul, Int.reduceDiv, Int.reduceMod, Nat.reduceLT, Nat.reduceLeDiff, Nat.reduceMul, Nat.reduceSub, Int.reduceToNat, go_sem, Nat.le_refl, ↓ix_enc, encI_len, encI_take, Tryd.results11, tmodE, tdivE]
        simp only [of_dig m k1 k2, hw, encI_one, encI_app, List.cons_append]
        refine ⟨⟨(m.tdiv 10000, (x :: r) ++ [((m.natAbs % 10000 : Nat) : Int)]), by simp only []; omega, by simp only []; omega, ?_⟩, by simp only []; omega, ?_⟩
        · rw [k3, figs_step m.natAbs (by omega), hq]; simp
        · simp only [List.cons_append, List.length_append, List.length_singleton]
          refine ⟨?_, ?_, ?_, ?_, ?_, ?_, ?_⟩ <;> simp only [mem_cons_, mem_nil_, lkp, hold_eq, b_some, frz_self, frz1_self, frzL_self, frzO_self, frzO_box, frzO_iter, frzL_cons, frzL_nil, frz_agg, frz1_row, frz1_nil, frz1_val, frz1_sl, frz1_rr, frz1_ptr, frz1_ms, frz_val, frz_sl, frz_row, frz_ptr, frz_ms, frz_fp, frz_tup, frz_fn, PV.lt, PV.ltL, PObj.lt, decide_true, Bool.true_and, Bool.and_true, Bool.and_self, Nat.reduceLT, Nat.reduceLeDiff, Nat.reduceEqDiff, if_true, if_false, ↓reduceIte, and_true, true_and, Nat.zero_le, reduceCtorEq, eq_self]
      · simp (implicitDefEqProofs := false) (disch := omega) only [go_sem, reduceCtorEq, Nat.reduceEqDiff, Nat.reduceBEq, ↓reduceIte, Nat.reduceGT, Nat.reduceAdd, Int.reduceEq, Int.reduceLT, Int.reduceLE, Int.reduceNeg, Int.reduceAdd, Int.reduceSub, Int.reduceMul, Int.reduceDiv, Int.reduceMod, Nat.reduceLT, Nat.reduceLeDiff, Nat.reduceMul, Nat.reduceSub, Int.reduceToNat, go_sem, Nat.le_refl, ↓ix_enc, encI_len, encI_take, Tryd.results11, tmodE, tdivE]
        subst heq
        rw [repN, k3]
        simp [figs]
def fits (z : Int) : Prop := -9223372036854775808 ≤ z ∧ z ≤ 9223372036854775807
instance (z : Int) : Decidable (fits z) := by unfold fits; infer_instance
abbrev two (n e : Int) : PV := .tup [vI n, vI e]
end Go.Proofs.YtppefmkknmdfkaaDoor
