/-
  Contracts and plain laws on the way to the statement; each says its own conditions.
-/
import Derived.Test.YtppefmkknmdfkaaDoorN5
open Go Go.Proofs Go.Pw
namespace Go.Proofs.YtppefmkknmdfkaaDoor
set_option maxRecDepth 4000
set_option linter.unusedSimpArgs false
set_option linter.unusedVariables false
/-- What Add gives, of any signs and figures. -/
def cleanF (b : Bool) (a : List Int) : PV := .agg [vB (b && decide (0 < cleanTo a a.length)), .sl (encI (a.take (cleanTo a a.length)))]
theorem bothG_len (a b : List Int) (s : Int) : ∀ (k i : Nat) (o : Int), (bothG a b s k i o).1.length = k
  | 0, _, _ => rfl
  | k + 1, i, o => by simp [bothG, bothG_len a b s k]
theorem bothF_len (a b : List Int) (s : Int) (la : a.length ≤ 10000) (lb : b.length ≤ 10000) : (bothF a b s).length ≤ 10001 := by
  unfold bothF
  have := bothG_len a b s (max a.length b.length) 0 0
  simp only
  split
  · rw [List.length_append, this, List.length_singleton]; omega
  · omega
def addF (x : Bool) (a : List Int) (y : Bool) (b : List Int) : PV :=
  if x = y then cleanF x (bothF a b 1) else if lessF a b then cleanF y (bothF b a (-1)) else cleanF x (bothF a b (-1))
set_option maxHeartbeats 1000000 in
theorem add_ok (x : Bool) (a : List Int) (y : Bool) (b : List Int) (hA : Digs a) (hB : Digs b) (la : a.length ≤ 10000) (lb : b.length ≤ 10000) : Ok Tryd.prog 26 [.agg [vB x, .sl (encI a)], .agg [vB y, .sl (encI b)]] (addF x a y b) := by
  have l1 := bothF_len a b 1 la lb
  have l2 := bothF_len b a (-1) lb la
  have l3 := bothF_len a b (-1) la lb
  refine Ok.of_pwp (by kernel_rfl) Tryd.func26 rfl (by kernel_rfl) (by kernel_rfl) ?_
  unfold addF
  simp (implicitDefEqProofs := false) (disch := omega) only [go_sem, reduceCtorEq, Nat.reduceEqDiff, Nat.reduceBEq, ↓reduceIte, Nat.reduceGT, Nat.reduceAdd, Int.reduceEq, Int.reduceLT, Int.reduceLE, Int.reduceNeg, Int.reduceAdd, Int.reduceSub, Int.reduceMul, Int.reduceDiv, Int.reduceMod, Nat.reduceLT, Nat.reduceLeDiff, Nat.reduceMul, Nat.reduceSub, Int.reduceToNat, go_sem, Nat.le_refl, ↓ix_enc, encI_len, encI_take, Tryd.results26]
  with_reducible refine ifK_bsplit (fun h => ?_) (fun h => ?_)
  · rw [if_pos (by simpa using h)]
    simp (implicitDefEqProofs := false) (disch := omega) only [go_sem, reduceCtorEq, Nat.reduceEqDiff, Nat.reduceBEq, ↓reduceIte, Nat.reduceGT, Nat.reduceAdd, Int.reduceEq, Int.reduceLT, Int.reduceLE, Int.reduceNeg, Int.reduceAdd, Int.reduceSub, Int.reduceMul, Int.reduceDiv, Int.reduceMod, Nat.reduceLT, Nat.reduceLeDiff, Nat.reduceMul, Nat.reduceSub, Int.reduceToNat, go_sem, Nat.le_refl, ↓ix_enc, encI_len, encI_take, Tryd.results26]
    with_reducible refine CallOk.of (both_ok a b 1 (.inl rfl) hA hB (by omega) (by omega)) rfl ?_
    simp (implicitDefEqProofs := false) (disch := omega) only [go_sem, reduceCtorEq, Nat.reduceEqDiff, Nat.reduceBEq, ↓reduceIte, Nat.reduceGT, Nat.reduceAdd, Int.reduceEq, Int.reduceLT, Int.reduceLE, Int.reduceNeg, Int.reduceAdd, Int.reduceSub, Int.reduceMul, Int.reduceDiv, Int.reduceMod, Nat.reduceLT, Nat.reduceLeDiff, Nat.reduceMul, Nat.reduceSub, Int.reduceToNat, go_sem, Nat.le_refl, ↓ix_enc, encI_len, encI_take, Tryd.results26]
    with_reducible refine CallOk.of (clean_ok x (bothF a b 1) (by omega)) rfl ?_
    simp (implicitDefEqProofs := false) (disch := omega) only [go_sem, reduceCtorEq, Nat.reduceEqDiff, Nat.reduceBEq, ↓reduceIte, Nat.reduceGT, Nat.reduceAdd, Int.reduceEq, Int.reduceLT, Int.reduceLE, Int.reduceNeg, Int.reduceAdd, Int.reduceSub, Int.reduceMul, Int.reduceDiv, Int.reduceMod, Nat.reduceLT, Nat.reduceLeDiff, Nat.reduceMul, Nat.reduceSub, Int.reduceToNat, go_sem, Nat.le_refl, ↓ix_enc, encI_len, encI_take, Tryd.results26]
    rfl
  · rw [if_neg (by simpa using h)]
    simp (implicitDefEqProofs := false) (disch := omega) only [go_sem, reduceCtorEq, Nat.reduceEqDiff, Nat.reduceBEq, ↓reduceIte, Nat.reduceGT, Nat.reduceAdd, Int.reduceEq, Int.reduceLT, Int.reduceLE, Int.reduceNeg, Int.reduceAdd, Int.reduceSub, Int.reduceMul, Int.reduceDiv, Int.reduceMod, Nat.reduceLT, Nat.reduceLeDiff, Nat.reduceMul, Nat.reduceSub, Int.reduceToNat, go_sem, Nat.le_refl, ↓ix_enc, encI_len, encI_take, Tryd.results26]
    with_reducible refine CallOk.of (less_ok a b (by omega) (by omega)) rfl ?_
    simp (implicitDefEqProofs := false) (disch := omega) only [go_sem, reduceCtorEq, Nat.reduceEqDiff, Nat.reduceBEq, ↓reduceIte, Nat.reduceGT, Nat.reduceAdd, Int.reduceEq, Int.reduceLT, Int.reduceLE, Int.reduceNeg, Int.reduceAdd, Int.reduceSub, Int.reduceMul, Int.reduceDiv, Int.reduceMod, Nat.reduceLT, Nat.reduceLeDiff, Nat.reduceMul, Nat.reduceSub, Int.reduceToNat, go_sem, Nat.le_refl, ↓ix_enc, encI_len, encI_take, Tryd.results26]
    with_reducible refine ifK_bsplit (fun h => ?_) (fun h => ?_)
    · rw [if_pos h]
      simp (implicitDefEqProofs := false) (disch := omega) only [go_sem, reduceCtorEq, Nat.reduceEqDiff, Nat.reduceBEq, ↓reduceIte, Nat.reduceGT, Nat.reduceAdd, Int.reduceEq, Int.reduceLT, Int.reduceLE, Int.reduceNeg, Int.reduceAdd, Int.reduceSub, Int.reduceMul, Int.reduceDiv, Int.reduceMod, Nat.reduceLT, Nat.reduceLeDiff, Nat.reduceMul, Nat.reduceSub, Int.reduceToNat, go_sem, Nat.le_refl, ↓ix_enc, encI_len, encI_take, Tryd.results26]
      with_reducible refine CallOk.of (both_ok b a (-1) (.inr rfl) hB hA (by omega) (by omega)) rfl ?_
      simp (implicitDefEqProofs := false) (disch := omega) only [go_sem, reduceCtorEq, Nat.reduceEqDiff, Nat.reduceBEq, ↓reduceIte, Nat.reduceGT, Nat.reduceAdd, Int.reduceEq, Int.reduceLT, Int.reduceLE, Int.reduceNeg, Int.reduceAdd, Int.reduceSub, Int.reduceMul, Int.reduceDiv, Int.reduceMod, Nat.reduceLT, Nat.reduceLeDiff, Nat.reduceMul, Nat.reduceSub, Int.reduceToNat, go_sem, Nat.le_refl, ↓ix_enc, encI_len, encI_take, Tryd.results26]
      with_reducible refine CallOk.of (clean_ok y (bothF b a (-1)) (by omega)) rfl ?_
      simp (implicitDefEqProofs := false) (disch := omega) only [go_sem, reduceCtorEq, Nat.reduceEqDiff, Nat.reduceBEq, ↓reduceIte, Nat.reduceGT, Nat.reduceAdd, Int.reduceEq, Int.reduceLT, Int.reduceLE, Int.reduceNeg, Int.reduceAdd, Int.reduceSub, Int.reduceMul, Int.reduceDiv, Int.reduceMod, Nat.reduceLT, Nat.reduceLeDiff, Nat.reduceMul, Nat.reduceSub, Int.reduceToNat, go_sem, Nat.le_refl, ↓ix_enc, encI_len, encI_take, Tryd.results26]
      rfl
    · rw [if_neg (by simp [h])]
      simp (implicitDefEqProofs := false) (disch := omega) only [go_sem, reduceCtorEq, Nat.reduceEqDiff, Nat.reduceBEq, ↓reduceIte, Nat.reduceGT, Nat.reduceAdd, Int.reduceEq, Int.reduceLT, Int.reduceLE, Int.reduceNeg, Int.reduceAdd, Int.reduceSub, Int.reduceMul, Int.reduceDiv, Int.reduceMod, Nat.reduceLT, Nat.reduceLeDiff, Nat.reduceMul, Nat.reduceSub, Int.reduceToNat, go_sem, Nat.le_refl, ↓ix_enc, encI_len, encI_take, Tryd.results26]
      with_reducible refine CallOk.of (both_ok a b (-1) (.inr rfl) hA hB (by omega) (by omega)) rfl ?_
      simp (implicitDefEqProofs := false) (disch := omega) only [go_sem, reduceCtorEq, Nat.reduceEqDiff, Nat.reduceBEq, ↓reduceIte, Nat.reduceGT, Nat.reduceAdd, Int.reduceEq, Int.reduceLT, Int.reduceLE, Int.reduceNeg, Int.reduceAdd, Int.reduceSub, Int.reduceMul, Int.reduceDiv, Int.reduceMod, Nat.reduceLT, Nat.reduceLeDiff, Nat.reduceMul, Nat.reduceSub, Int.reduceToNat, go_sem, Nat.le_refl, ↓ix_enc, encI_len, encI_take, Tryd.results26]
      with_reducible refine CallOk.of (clean_ok x (bothF a b (-1)) (by omega)) rfl ?_
      simp (implicitDefEqProofs := false) (disch := omega) only [go_sem, reduceCtorEq, Nat.reduceEqDiff, Nat.reduceBEq, ↓reduceIte, Nat.reduceGT, Nat.reduceAdd, Int.reduceEq, Int.reduceLT, Int.reduceLE, Int.reduceNeg, Int.reduceAdd, Int.reduceSub, Int.reduceMul, Int.reduceDiv, Int.reduceMod, Nat.reduceLT, Nat.reduceLeDiff, Nat.reduceMul, Nat.reduceSub, Int.reduceToNat, go_sem, Nat.le_refl, ↓ix_enc, encI_len, encI_take, Tryd.results26]
      rfl
end Go.Proofs.YtppefmkknmdfkaaDoor
