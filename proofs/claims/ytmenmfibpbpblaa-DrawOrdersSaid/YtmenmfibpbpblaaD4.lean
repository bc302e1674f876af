/-
  The law DrawOrders.
-/
import Derived.Test.YtmenmfibpbpblaaD3
open Go Go.Proofs Go.Pw Go.RowKit
namespace Go.Proofs.Ytmenmfibpbpblaa
set_option linter.unusedVariables false
set_option linter.unusedSimpArgs false
theorem cmpF_anti (x y : Int) : cmpF y x = -cmpF x y := by
  unfold cmpF
  split <;> split <;> (try split) <;> omega
theorem lexC_anti : ∀ l m, lexC m l = -lexC l m
  | [], [] => rfl
  | [], _ :: _ => rfl
  | _ :: _, [] => rfl
  | x :: r, y :: t => by
    simp only [lexC, cmpF_anti x y]
    have ih := lexC_anti r t
    split
    · rw [if_pos (by omega)]; exact ih
    · rw [if_neg (by omega)]
theorem cmpF_range (x y : Int) : cmpF x y = -1 ∨ cmpF x y = 0 ∨ cmpF x y = 1 := by
  unfold cmpF
  split
  · exact .inl rfl
  · split
    · exact .inr (.inr rfl)
    · exact .inr (.inl rfl)
theorem lexC_range : ∀ l m, lexC l m = -1 ∨ lexC l m = 0 ∨ lexC l m = 1
  | [], [] => .inr (.inl rfl)
  | [], _ :: _ => .inl rfl
  | _ :: _, [] => .inr (.inr rfl)
  | x :: r, y :: t => by
    simp only [lexC]
    split
    · exact lexC_range r t
    · exact cmpF_range x y
theorem cmpF_lt {x y : Int} : cmpF x y = -1 ↔ x < y := by
  unfold cmpF
  split
  · exact ⟨fun _ => by assumption, fun _ => rfl⟩
  · split <;> constructor <;> intro h <;> omega
theorem cmpF_le {x y : Int} : cmpF x y ≤ 0 ↔ x ≤ y := by
  unfold cmpF
  split
  · constructor <;> intro h <;> omega
  · split <;> constructor <;> intro h <;> omega
theorem cmpF_eq {x y : Int} : cmpF x y = 0 ↔ x = y := by
  unfold cmpF
  split
  · constructor <;> intro h <;> omega
  · split <;> constructor <;> intro h <;> omega
/-- The order is a whole one. -/
theorem lexC_trans : ∀ l m k, lexC l m ≤ 0 → lexC m k ≤ 0 → lexC l k ≤ 0
  | [], _, [] => fun _ _ => by simp [lexC]
  | [], _, _ :: _ => fun _ _ => by simp [lexC]
  | x :: r, [], k => fun h _ => by simp [lexC] at h
  | x :: r, y :: t, [] => fun _ h => by simp [lexC] at h
  | x :: r, y :: t, z :: u => fun h1 h2 => by
    simp only [lexC] at h1 h2 ⊢
    have ih := lexC_trans r t u
    have a1 := cmpF_le (x := x) (y := y)
    have a2 := cmpF_le (x := y) (y := z)
    have a3 := cmpF_le (x := x) (y := z)
    have b1 := cmpF_eq (x := x) (y := y)
    have b2 := cmpF_eq (x := y) (y := z)
    have b3 := cmpF_eq (x := x) (y := z)
    split at h1 <;> split at h2 <;> split <;> first | (apply ih <;> assumption) | omega
theorem orderF_anti (a b : List Int) : orderF b a = -orderF a b := by
  unfold orderF
  rw [cmpF_anti (a.length : Int) b.length, lexC_anti a b]
  split
  · rw [if_pos (by omega)]
  · rw [if_neg (by omega)]
theorem orderF_range (a b : List Int) : orderF a b = -1 ∨ orderF a b = 0 ∨ orderF a b = 1 := by
  unfold orderF
  split
  · exact lexC_range a b
  · exact cmpF_range _ _
theorem orderF_less (a b : List Int) : lessB a b = decide (orderF a b = -1) := by
  unfold lessB orderF
  have b1 := cmpF_eq (x := (a.length : Int)) (y := b.length)
  have b2 := cmpF_lt (x := (a.length : Int)) (y := b.length)
  split
  · rw [if_pos (by omega)]
  · rw [if_neg (by omega)]
    congr 1
    apply propext
    omega
theorem orderF_trans (a b c : List Int) (h1 : orderF a b ≤ 0) (h2 : orderF b c ≤ 0) : orderF a c ≤ 0 := by
  unfold orderF at *
  have lt := lexC_trans a b c
  have a1 := cmpF_le (x := (a.length : Int)) (y := b.length)
  have a2 := cmpF_le (x := (b.length : Int)) (y := c.length)
  have a3 := cmpF_le (x := (a.length : Int)) (y := c.length)
  have b1 := cmpF_eq (x := (a.length : Int)) (y := b.length)
  have b2 := cmpF_eq (x := (b.length : Int)) (y := c.length)
  have b3 := cmpF_eq (x := (a.length : Int)) (y := c.length)
  split at h1 <;> split at h2 <;> split <;> first | (apply lt <;> assumption) | omega
set_option maxHeartbeats 4000000 in
theorem orders_ok (a b c : List Int) (_ha : ∀ n ∈ a, -9223372036854775808 ≤ n ∧ n ≤ 9223372036854775807) (ha : a.length ≤ 140737488351232) (_hb : ∀ n ∈ b, -9223372036854775808 ≤ n ∧ n ≤ 9223372036854775807) (hb : b.length ≤ 140737488351232) (_hc : ∀ n ∈ c, -9223372036854775808 ≤ n ∧ n ≤ 9223372036854775807) (hc : c.length ≤ 140737488351232) :
    Ok Try.prog 4 [.sl (encI a), .sl (encI b), .sl (encI c)] (vB true) := by
  refine Ok.of_pwp (by kernel_rfl) Try.func4 rfl (by kernel_rfl) (by kernel_rfl) ?_
  simp (implicitDefEqProofs := false) (disch := omega) only [go_sem, reduceCtorEq, Nat.reduceEqDiff, Nat.reduceBEq, ↓reduceIte, Nat.reduceGT, Nat.reduceAdd, Int.reduceEq, Int.reduceLT, Int.reduceLE, Int.reduceNeg, Int.reduceAdd, Int.reduceSub, Int.reduceMul, Int.reduceDiv, Int.reduceMod, Nat.reduceLT, Nat.reduceLeDiff, Nat.reduceMul, Nat.reduceSub, Int.reduceToNat, go_sem, Nat.le_refl, ↓ix_enc, encI_len, Try.results4]
  with_reducible refine CallOk.of (awake_ok) rfl ?_
  simp (implicitDefEqProofs := false) (disch := omega) only [go_sem, reduceCtorEq, Nat.reduceEqDiff, Nat.reduceBEq, ↓reduceIte, Nat.reduceGT, Nat.reduceAdd, Int.reduceEq, Int.reduceLT, Int.reduceLE, Int.reduceNeg, Int.reduceAdd, Int.reduceSub, Int.reduceMul, Int.reduceDiv, Int.reduceMod, Nat.reduceLT, Nat.reduceLeDiff, Nat.reduceMul, Nat.reduceSub, Int.reduceToNat, go_sem, Nat.le_refl, ↓ix_enc, encI_len, Try.results4]
  by_cases h1 : a.length ≤ 60
  · by_cases h2 : b.length ≤ 60
    · by_cases h3 : c.length ≤ 60
      · rcases orderF_range a b with e | e | e
        · have l1 := less_ok a b ha hb
          have l2 := less_ok b a hb ha
          have o1 := order_ok a b ha hb
          have o2 := order_ok b a hb ha
          have o3 := order_ok b c hb hc
          have o4 := order_ok a c ha hc
          have tr := orderF_trans a b c
          rw [orderF_less, e] at l1
          rw [orderF_less, orderF_anti a b, e] at l2
          rw [e] at o1
          rw [orderF_anti a b, e] at o2
          simp only [Int.reduceNeg, Int.reduceEq, decide_true, decide_false, Int.neg_neg, Int.neg_zero, reduceCtorEq] at l1 l2 o1 o2
          generalize orderF b c = x at *
          generalize orderF a c = y at *
          simp (implicitDefEqProofs := false) (disch := omega) only [go_sem, reduceCtorEq, Nat.reduceEqDiff, Nat.reduceBEq, ↓reduceIte, Nat.reduceGT, Nat.reduceAdd, Int.reduceEq, Int.reduceLT, Int.reduceLE, Int.reduceNeg, Int.reduceAdd, Int.reduceSub, Int.reduceMul, Int.reduceDiv, Int.reduceMod, Nat.reduceLT, Nat.reduceLeDiff, Nat.reduceMul, Nat.reduceSub, Int.reduceToNat, go_sem, Nat.le_refl, ↓ix_enc, encI_len, Try.results4]
          with_reducible refine CallOk.of (l1) rfl ?_
          simp (implicitDefEqProofs := false) (disch := omega) only [go_sem, reduceCtorEq, Nat.reduceEqDiff, Nat.reduceBEq, ↓reduceIte, Nat.reduceGT, Nat.reduceAdd, Int.reduceEq, Int.reduceLT, Int.reduceLE, Int.reduceNeg, Int.reduceAdd, Int.reduceSub, Int.reduceMul, Int.reduceDiv, Int.reduceMod, Nat.reduceLT, Nat.reduceLeDiff, Nat.reduceMul, Nat.reduceSub, Int.reduceToNat, go_sem, Nat.le_refl, ↓ix_enc, encI_len, Try.results4]
          with_reducible refine CallOk.of (o1) rfl ?_
          simp (implicitDefEqProofs := false) (disch := omega) only [go_sem, reduceCtorEq, Nat.reduceEqDiff, Nat.reduceBEq, ↓reduceIte, Nat.reduceGT, Nat.reduceAdd, Int.reduceEq, Int.reduceLT, Int.reduceLE, Int.reduceNeg, Int.reduceAdd, Int.reduceSub, Int.reduceMul, Int.reduceDiv, Int.reduceMod, Nat.reduceLT, Nat.reduceLeDiff, Nat.reduceMul, Nat.reduceSub, Int.reduceToNat, go_sem, Nat.le_refl, ↓ix_enc, encI_len, Try.results4]
          with_reducible refine CallOk.of (o2) rfl ?_
          simp (implicitDefEqProofs := false) (disch := omega) only [go_sem, reduceCtorEq, Nat.reduceEqDiff, Nat.reduceBEq, ↓reduceIte, Nat.reduceGT, Nat.reduceAdd, Int.reduceEq, Int.reduceLT, Int.reduceLE, Int.reduceNeg, Int.reduceAdd, Int.reduceSub, Int.reduceMul, Int.reduceDiv, Int.reduceMod, Nat.reduceLT, Nat.reduceLeDiff, Nat.reduceMul, Nat.reduceSub, Int.reduceToNat, go_sem, Nat.le_refl, ↓ix_enc, encI_len, Try.results4]
          with_reducible refine CallOk.of (o3) rfl ?_
          simp (implicitDefEqProofs := false) (disch := omega) only [go_sem, reduceCtorEq, Nat.reduceEqDiff, Nat.reduceBEq, ↓reduceIte, Nat.reduceGT, Nat.reduceAdd, Int.reduceEq, Int.reduceLT, Int.reduceLE, Int.reduceNeg, Int.reduceAdd, Int.reduceSub, Int.reduceMul, Int.reduceDiv, Int.reduceMod, Nat.reduceLT, Nat.reduceLeDiff, Nat.reduceMul, Nat.reduceSub, Int.reduceToNat, go_sem, Nat.le_refl, ↓ix_enc, encI_len, Try.results4]
          by_cases hx : 0 < x
          · simp (implicitDefEqProofs := false) (disch := omega) only [go_sem, reduceCtorEq, Nat.reduceEqDiff, Nat.reduceBEq, ↓reduceIte, Nat.reduceGT, Nat.reduceAdd, Int.reduceEq, Int.reduceLT, Int.reduceLE, Int.reduceNeg, Int.reduceAdd, Int.reduceSub, Int.reduceMul, Int.reduceDiv, Int.reduceMod, Nat.reduceLT, Nat.reduceLeDiff, Nat.reduceMul, Nat.reduceSub, Int.reduceToNat, go_sem, Nat.le_refl, ↓ix_enc, encI_len, Try.results4]
          · have hy : y ≤ 0 := by omega
            simp (implicitDefEqProofs := false) (disch := omega) only [go_sem, reduceCtorEq, Nat.reduceEqDiff, Nat.reduceBEq, ↓reduceIte, Nat.reduceGT, Nat.reduceAdd, Int.reduceEq, Int.reduceLT, Int.reduceLE, Int.reduceNeg, Int.reduceAdd, Int.reduceSub, Int.reduceMul, Int.reduceDiv, Int.reduceMod, Nat.reduceLT, Nat.reduceLeDiff, Nat.reduceMul, Nat.reduceSub, Int.reduceToNat, go_sem, Nat.le_refl, ↓ix_enc, encI_len, Try.results4]
            with_reducible refine CallOk.of (o4) rfl ?_
            simp (implicitDefEqProofs := false) (disch := omega) only [go_sem, reduceCtorEq, Nat.reduceEqDiff, Nat.reduceBEq, ↓reduceIte, Nat.reduceGT, Nat.reduceAdd, Int.reduceEq, Int.reduceLT, Int.reduceLE, Int.reduceNeg, Int.reduceAdd, Int.reduceSub, Int.reduceMul, Int.reduceDiv, Int.reduceMod, Nat.reduceLT, Nat.reduceLeDiff, Nat.reduceMul, Nat.reduceSub, Int.reduceToNat, go_sem, Nat.le_refl, ↓ix_enc, encI_len, Try.results4]
            rw [decide_eq_true hy]
        · have l1 := less_ok a b ha hb
          have l2 := less_ok b a hb ha
          have o1 := order_ok a b ha hb
          have o2 := order_ok b a hb ha
          have o3 := order_ok b c hb hc
          have o4 := order_ok a c ha hc
          have tr := orderF_trans a b c
          rw [orderF_less, e] at l1
          rw [orderF_less, orderF_anti a b, e] at l2
          rw [e] at o1
          rw [orderF_anti a b, e] at o2
          simp only [Int.reduceNeg, Int.reduceEq, decide_true, decide_false, Int.neg_neg, Int.neg_zero, reduceCtorEq] at l1 l2 o1 o2
          generalize orderF b c = x at *
          generalize orderF a c = y at *
          simp (implicitDefEqProofs := false) (disch := omega) only [go_sem, reduceCtorEq, Nat.reduceEqDiff, Nat.reduceBEq, ↓reduceIte, Nat.reduceGT, Nat.reduceAdd, Int.reduceEq, Int.reduceLT, Int.reduceLE, Int.reduceNeg, Int.reduceAdd, Int.reduceSub, Int.reduceMul, Int.reduceDiv, Int.reduceMod, Nat.reduceLT, Nat.reduceLeDiff, Nat.reduceMul, Nat.reduceSub, Int.reduceToNat, go_sem, Nat.le_refl, ↓ix_enc, encI_len, Try.results4]
          with_reducible refine CallOk.of (l1) rfl ?_
          simp (implicitDefEqProofs := false) (disch := omega) only [go_sem, reduceCtorEq, Nat.reduceEqDiff, Nat.reduceBEq, ↓reduceIte, Nat.reduceGT, Nat.reduceAdd, Int.reduceEq, Int.reduceLT, Int.reduceLE, Int.reduceNeg, Int.reduceAdd, Int.reduceSub, Int.reduceMul, Int.reduceDiv, Int.reduceMod, Nat.reduceLT, Nat.reduceLeDiff, Nat.reduceMul, Nat.reduceSub, Int.reduceToNat, go_sem, Nat.le_refl, ↓ix_enc, encI_len, Try.results4]
          with_reducible refine CallOk.of (l2) rfl ?_
          simp (implicitDefEqProofs := false) (disch := omega) only [go_sem, reduceCtorEq, Nat.reduceEqDiff, Nat.reduceBEq, ↓reduceIte, Nat.reduceGT, Nat.reduceAdd, Int.reduceEq, Int.reduceLT, Int.reduceLE, Int.reduceNeg, Int.reduceAdd, Int.reduceSub, Int.reduceMul, Int.reduceDiv, Int.reduceMod, Nat.reduceLT, Nat.reduceLeDiff, Nat.reduceMul, Nat.reduceSub, Int.reduceToNat, go_sem, Nat.le_refl, ↓ix_enc, encI_len, Try.results4]
          with_reducible refine CallOk.of (o1) rfl ?_
          simp (implicitDefEqProofs := false) (disch := omega) only [go_sem, reduceCtorEq, Nat.reduceEqDiff, Nat.reduceBEq, ↓reduceIte, Nat.reduceGT, Nat.reduceAdd, Int.reduceEq, Int.reduceLT, Int.reduceLE, Int.reduceNeg, Int.reduceAdd, Int.reduceSub, Int.reduceMul, Int.reduceDiv, Int.reduceMod, Nat.reduceLT, Nat.reduceLeDiff, Nat.reduceMul, Nat.reduceSub, Int.reduceToNat, go_sem, Nat.le_refl, ↓ix_enc, encI_len, Try.results4]
          with_reducible refine CallOk.of (o2) rfl ?_
          simp (implicitDefEqProofs := false) (disch := omega) only [go_sem, reduceCtorEq, Nat.reduceEqDiff, Nat.reduceBEq, ↓reduceIte, Nat.reduceGT, Nat.reduceAdd, Int.reduceEq, Int.reduceLT, Int.reduceLE, Int.reduceNeg, Int.reduceAdd, Int.reduceSub, Int.reduceMul, Int.reduceDiv, Int.reduceMod, Nat.reduceLT, Nat.reduceLeDiff, Nat.reduceMul, Nat.reduceSub, Int.reduceToNat, go_sem, Nat.le_refl, ↓ix_enc, encI_len, Try.results4]
          with_reducible refine CallOk.of (o3) rfl ?_
          simp (implicitDefEqProofs := false) (disch := omega) only [go_sem, reduceCtorEq, Nat.reduceEqDiff, Nat.reduceBEq, ↓reduceIte, Nat.reduceGT, Nat.reduceAdd, Int.reduceEq, Int.reduceLT, Int.reduceLE, Int.reduceNeg, Int.reduceAdd, Int.reduceSub, Int.reduceMul, Int.reduceDiv, Int.reduceMod, Nat.reduceLT, Nat.reduceLeDiff, Nat.reduceMul, Nat.reduceSub, Int.reduceToNat, go_sem, Nat.le_refl, ↓ix_enc, encI_len, Try.results4]
          by_cases hx : 0 < x
          · simp (implicitDefEqProofs := false) (disch := omega) only [go_sem, reduceCtorEq, Nat.reduceEqDiff, Nat.reduceBEq, ↓reduceIte, Nat.reduceGT, Nat.reduceAdd, Int.reduceEq, Int.reduceLT, Int.reduceLE, Int.reduceNeg, Int.reduceAdd, Int.reduceSub, Int.reduceMul, Int.reduceDiv, Int.reduceMod, Nat.reduceLT, Nat.reduceLeDiff, Nat.reduceMul, Nat.reduceSub, Int.reduceToNat, go_sem, Nat.le_refl, ↓ix_enc, encI_len, Try.results4]
          · have hy : y ≤ 0 := by omega
            simp (implicitDefEqProofs := false) (disch := omega) only [go_sem, reduceCtorEq, Nat.reduceEqDiff, Nat.reduceBEq, ↓reduceIte, Nat.reduceGT, Nat.reduceAdd, Int.reduceEq, Int.reduceLT, Int.reduceLE, Int.reduceNeg, Int.reduceAdd, Int.reduceSub, Int.reduceMul, Int.reduceDiv, Int.reduceMod, Nat.reduceLT, Nat.reduceLeDiff, Nat.reduceMul, Nat.reduceSub, Int.reduceToNat, go_sem, Nat.le_refl, ↓ix_enc, encI_len, Try.results4]
            with_reducible refine CallOk.of (o4) rfl ?_
            simp (implicitDefEqProofs := false) (disch := omega) only [go_sem, reduceCtorEq, Nat.reduceEqDiff, Nat.reduceBEq, ↓reduceIte, Nat.reduceGT, Nat.reduceAdd, Int.reduceEq, Int.reduceLT, Int.reduceLE, Int.reduceNeg, Int.reduceAdd, Int.reduceSub, Int.reduceMul, Int.reduceDiv, Int.reduceMod, Nat.reduceLT, Nat.reduceLeDiff, Nat.reduceMul, Nat.reduceSub, Int.reduceToNat, go_sem, Nat.le_refl, ↓ix_enc, encI_len, Try.results4]
            rw [decide_eq_true hy]
        · have l1 := less_ok a b ha hb
          have l2 := less_ok b a hb ha
          have o1 := order_ok a b ha hb
          have o2 := order_ok b a hb ha
          have o3 := order_ok b c hb hc
          have o4 := order_ok a c ha hc
          have tr := orderF_trans a b c
          rw [orderF_less, e] at l1
          rw [orderF_less, orderF_anti a b, e] at l2
          rw [e] at o1
          rw [orderF_anti a b, e] at o2
          simp only [Int.reduceNeg, Int.reduceEq, decide_true, decide_false, Int.neg_neg, Int.neg_zero, reduceCtorEq] at l1 l2 o1 o2
          generalize orderF b c = x at *
          generalize orderF a c = y at *
          simp (implicitDefEqProofs := false) (disch := omega) only [go_sem, reduceCtorEq, Nat.reduceEqDiff, Nat.reduceBEq, ↓reduceIte, Nat.reduceGT, Nat.reduceAdd, Int.reduceEq, Int.reduceLT, Int.reduceLE, Int.reduceNeg, Int.reduceAdd, Int.reduceSub, Int.reduceMul, Int.reduceDiv, Int.reduceMod, Nat.reduceLT, Nat.reduceLeDiff, Nat.reduceMul, Nat.reduceSub, Int.reduceToNat, go_sem, Nat.le_refl, ↓ix_enc, encI_len, Try.results4]
          with_reducible refine CallOk.of (l1) rfl ?_
          simp (implicitDefEqProofs := false) (disch := omega) only [go_sem, reduceCtorEq, Nat.reduceEqDiff, Nat.reduceBEq, ↓reduceIte, Nat.reduceGT, Nat.reduceAdd, Int.reduceEq, Int.reduceLT, Int.reduceLE, Int.reduceNeg, Int.reduceAdd, Int.reduceSub, Int.reduceMul, Int.reduceDiv, Int.reduceMod, Nat.reduceLT, Nat.reduceLeDiff, Nat.reduceMul, Nat.reduceSub, Int.reduceToNat, go_sem, Nat.le_refl, ↓ix_enc, encI_len, Try.results4]
          with_reducible refine CallOk.of (l2) rfl ?_
          simp (implicitDefEqProofs := false) (disch := omega) only [go_sem, reduceCtorEq, Nat.reduceEqDiff, Nat.reduceBEq, ↓reduceIte, Nat.reduceGT, Nat.reduceAdd, Int.reduceEq, Int.reduceLT, Int.reduceLE, Int.reduceNeg, Int.reduceAdd, Int.reduceSub, Int.reduceMul, Int.reduceDiv, Int.reduceMod, Nat.reduceLT, Nat.reduceLeDiff, Nat.reduceMul, Nat.reduceSub, Int.reduceToNat, go_sem, Nat.le_refl, ↓ix_enc, encI_len, Try.results4]
          with_reducible refine CallOk.of (o1) rfl ?_
          simp (implicitDefEqProofs := false) (disch := omega) only [go_sem, reduceCtorEq, Nat.reduceEqDiff, Nat.reduceBEq, ↓reduceIte, Nat.reduceGT, Nat.reduceAdd, Int.reduceEq, Int.reduceLT, Int.reduceLE, Int.reduceNeg, Int.reduceAdd, Int.reduceSub, Int.reduceMul, Int.reduceDiv, Int.reduceMod, Nat.reduceLT, Nat.reduceLeDiff, Nat.reduceMul, Nat.reduceSub, Int.reduceToNat, go_sem, Nat.le_refl, ↓ix_enc, encI_len, Try.results4]
          with_reducible refine CallOk.of (o2) rfl ?_
          simp (implicitDefEqProofs := false) (disch := omega) only [go_sem, reduceCtorEq, Nat.reduceEqDiff, Nat.reduceBEq, ↓reduceIte, Nat.reduceGT, Nat.reduceAdd, Int.reduceEq, Int.reduceLT, Int.reduceLE, Int.reduceNeg, Int.reduceAdd, Int.reduceSub, Int.reduceMul, Int.reduceDiv, Int.reduceMod, Nat.reduceLT, Nat.reduceLeDiff, Nat.reduceMul, Nat.reduceSub, Int.reduceToNat, go_sem, Nat.le_refl, ↓ix_enc, encI_len, Try.results4]
      · simp (implicitDefEqProofs := false) (disch := omega) only [go_sem, reduceCtorEq, Nat.reduceEqDiff, Nat.reduceBEq, ↓reduceIte, Nat.reduceGT, Nat.reduceAdd, Int.reduceEq, Int.reduceLT, Int.reduceLE, Int.reduceNeg, Int.reduceAdd, Int.reduceSub, Int.reduceMul, Int.reduceDiv, Int.reduceMod, Nat.reduceLT, Nat.reduceLeDiff, Nat.reduceMul, Nat.reduceSub, Int.reduceToNat, go_sem, Nat.le_refl, ↓ix_enc, encI_len, Try.results4]
        with_reducible refine CallOk.of (awake_ok) rfl ?_
        simp (implicitDefEqProofs := false) (disch := omega) only [go_sem, reduceCtorEq, Nat.reduceEqDiff, Nat.reduceBEq, ↓reduceIte, Nat.reduceGT, Nat.reduceAdd, Int.reduceEq, Int.reduceLT, Int.reduceLE, Int.reduceNeg, Int.reduceAdd, Int.reduceSub, Int.reduceMul, Int.reduceDiv, Int.reduceMod, Nat.reduceLT, Nat.reduceLeDiff, Nat.reduceMul, Nat.reduceSub, Int.reduceToNat, go_sem, Nat.le_refl, ↓ix_enc, encI_len, Try.results4]
    · simp (implicitDefEqProofs := false) (disch := omega) only [go_sem, reduceCtorEq, Nat.reduceEqDiff, Nat.reduceBEq, ↓reduceIte, Nat.reduceGT, Nat.reduceAdd, Int.reduceEq, Int.reduceLT, Int.reduceLE, Int.reduceNeg, Int.reduceAdd, Int.reduceSub, Int.reduceMul, Int.reduceDiv, Int.reduceMod, Nat.reduceLT, Nat.reduceLeDiff, Nat.reduceMul, Nat.reduceSub, Int.reduceToNat, go_sem, Nat.le_refl, ↓ix_enc, encI_len, Try.results4]
      with_reducible refine CallOk.of (awake_ok) rfl ?_
      simp (implicitDefEqProofs := false) (disch := omega) only [go_sem, reduceCtorEq, Nat.reduceEqDiff, Nat.reduceBEq, ↓reduceIte, Nat.reduceGT, Nat.reduceAdd, Int.reduceEq, Int.reduceLT, Int.reduceLE, Int.reduceNeg, Int.reduceAdd, Int.reduceSub, Int.reduceMul, Int.reduceDiv, Int.reduceMod, Nat.reduceLT, Nat.reduceLeDiff, Nat.reduceMul, Nat.reduceSub, Int.reduceToNat, go_sem, Nat.le_refl, ↓ix_enc, encI_len, Try.results4]
  · simp (implicitDefEqProofs := false) (disch := omega) only [go_sem, reduceCtorEq, Nat.reduceEqDiff, Nat.reduceBEq, ↓reduceIte, Nat.reduceGT, Nat.reduceAdd, Int.reduceEq, Int.reduceLT, Int.reduceLE, Int.reduceNeg, Int.reduceAdd, Int.reduceSub, Int.reduceMul, Int.reduceDiv, Int.reduceMod, Nat.reduceLT, Nat.reduceLeDiff, Nat.reduceMul, Nat.reduceSub, Int.reduceToNat, go_sem, Nat.le_refl, ↓ix_enc, encI_len, Try.results4]
    with_reducible refine CallOk.of (awake_ok) rfl ?_
    simp (implicitDefEqProofs := false) (disch := omega) only [go_sem, reduceCtorEq, Nat.reduceEqDiff, Nat.reduceBEq, ↓reduceIte, Nat.reduceGT, Nat.reduceAdd, Int.reduceEq, Int.reduceLT, Int.reduceLE, Int.reduceNeg, Int.reduceAdd, Int.reduceSub, Int.reduceMul, Int.reduceDiv, Int.reduceMod, Nat.reduceLT, Nat.reduceLeDiff, Nat.reduceMul, Nat.reduceSub, Int.reduceToNat, go_sem, Nat.le_refl, ↓ix_enc, encI_len, Try.results4]
end Go.Proofs.Ytmenmfibpbpblaa
