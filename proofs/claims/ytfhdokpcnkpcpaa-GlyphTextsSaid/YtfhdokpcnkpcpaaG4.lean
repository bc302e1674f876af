/-
  Contracts and plain laws on the way to the statement; each says its own conditions.
-/
import Derived.Test.YtfhdokpcnkpcpaaG3
open Go Go.Proofs Go.Pw
namespace Go.Proofs.Ytfhdokpcnkpcpaa
set_option linter.unusedSimpArgs false
set_option linter.unusedVariables false
abbrev isPt (n : Int) : Prop := 0 ≤ n ∧ n ≤ 1114111
def textN (l : List Int) : List Int := l.flatMap bytesF
theorem bytesF_byte (n : Int) (h : isPt n) : ∀ x ∈ bytesF n, 0 ≤ x ∧ x ≤ 255 := by
  unfold bytesF
  intro x hx
  split at hx
  · simp at hx; omega
  · split at hx
    · simp at hx; omega
    · split at hx
      · simp at hx; omega
      · simp at hx; omega
theorem bytesF_len (n : Int) : 1 ≤ (bytesF n).length ∧ (bytesF n).length ≤ 4 := by
  unfold bytesF
  repeat' split
  all_goals simp
theorem take_snocI {a : List Int} {k : Nat} (h : k < a.length) : a.take (k + 1) = a.take k ++ [a.getD k 0] := by
  rw [List.take_succ_eq_append_getElem h, List.getD_eq_getElem?_getD, List.getElem?_eq_getElem h]; rfl
theorem textN_step {l : List Int} {i : Nat} (h : i < l.length) : textN (l.take (i + 1)) = textN (l.take i) ++ bytesF (l.getD i 0) := by
  unfold textN
  rw [take_snocI h, List.flatMap_append]
  simp
theorem textN_len (l : List Int) : (textN l).length ≤ 4 * l.length := by
  induction l with
  | nil => simp [textN]
  | cons x r ih =>
    have := (bytesF_len x).2
    unfold textN at *
    rw [List.flatMap_cons, List.length_append, List.length_cons]
    omega
def textS (l : List Int) (i tk : Nat) (xs : List Int) : PS :=
  ⟨[(3, rowC tk xs), (9, vI i), (8, vI l.length), (7, .sl (encI l)), (0, .sl (encI l))], [], tokC tk 5 xs, 0, tk + 1⟩
def textT (l b : List Int) (i k tk : Nat) (xs : List Int) : PS :=
  ⟨[(3, rowC tk xs), (19, vI k), (18, vI b.length), (5, .sl (encI b)), (9, vI i), (8, vI l.length), (7, .sl (encI l)), (0, .sl (encI l))], [], tokC tk 5 xs, 0, tk + 1⟩
set_option maxHeartbeats 4000000 in
theorem text_ok (l : List Int) (hl : ∀ n ∈ l, isPt n) (hn : l.length ≤ 1000000) : Ok Try.prog 17 [.sl (encI l)] (vS (strOfNums (textN l))) := by
  refine Ok.of_pwp (by kernel_rfl) Try.func17 rfl (by kernel_rfl) (by kernel_rfl) ?_
  simp (implicitDefEqProofs := false) (disch := omega) only [go_sem, reduceCtorEq, Nat.reduceEqDiff, Nat.reduceBEq, ↓reduceIte, Nat.reduceGT, Nat.reduceAdd, Int.reduceEq, Int.reduceLT, Int.reduceLE, Int.reduceNeg, Int.reduceAdd, Int.reduceSub, Int.reduceMul, Int.reduceDiv, Int.reduceMod, Nat.reduceLT, Nat.reduceLeDiff, Nat.reduceMul, Nat.reduceSub, Int.reduceToNat, go_sem, ↓ix_enc, encI_len, encI_take, Nat.le_refl, Try.results17]
  refine p_loop (ι := { p : Nat × Nat // p.1 ≤ l.length }) (fun p => textS l p.1.1 p.1.2 (textN (l.take p.1.1))) (fun p => l.length - p.1.1) ⟨(0, 0), Nat.zero_le _⟩ ?_ ?_
  · simp only [textS, List.take_zero, textN, List.flatMap_nil, rowC, tokC]
    refine ⟨?_, ?_, ?_, ?_, ?_, ?_, ?_⟩ <;> simp only [mem_cons_, mem_nil_, lkp, PV.lt, PV.ltL, PObj.lt, decide_true, Bool.and_true, Bool.and_self, Nat.reduceLT, Nat.reduceLeDiff, Nat.reduceEqDiff, if_true, if_false, ↓reduceIte, and_true, true_and, Nat.zero_le, reduceCtorEq, eq_self, decide_eq_true_eq, Int.natCast_zero] <;> try first | omega | ((repeat' (first | exact And.intro rfl (by omega) | (refine And.intro ?_ ?_))) <;> first | rfl | omega | (congr 3; omega) | (congr 2; omega))
  · rintro ⟨⟨i, tk⟩, hi⟩
    simp only at hi ⊢
    have tl := textN_len (l.take i)
    rw [List.length_take] at tl
    simp only [textS]
    simp (implicitDefEqProofs := false) (disch := omega) only [go_sem, reduceCtorEq, Nat.reduceEqDiff, Nat.reduceBEq, ↓reduceIte, Nat.reduceGT, Nat.reduceAdd, Int.reduceEq, Int.reduceLT, Int.reduceLE, Int.reduceNeg, Int.reduceAdd, Int.reduceSub, Int.reduceMul, Int.reduceDiv, Int.reduceMod, Nat.reduceLT, Nat.reduceLeDiff, Nat.reduceMul, Nat.reduceSub, Int.reduceToNat, go_sem, ↓ix_enc, encI_len, encI_take, Nat.le_refl, Try.results17]
    with_reducible refine ifK_split (fun hlt => ?_) (fun hge => ?_)
    · simp (implicitDefEqProofs := false) (disch := omega) only [go_sem, reduceCtorEq, Nat.reduceEqDiff, Nat.reduceBEq, ↓reduceIte, Nat.reduceGT, Nat.reduceAdd, Int.reduceEq, Int.reduceLT, Int.reduceLE, Int.reduceNeg, Int.reduceAdd, Int.reduceSub, Int.reduceMul, Int.reduceDiv, Int.reduceMod, Nat.reduceLT, Nat.reduceLeDiff, Nat.reduceMul, Nat.reduceSub, Int.reduceToNat, go_sem, ↓ix_enc, encI_len, encI_take, Nat.le_refl, Try.results17]
      have hp : isPt (l.getD i 0) := by
        rw [List.getD_eq_getElem?_getD, List.getElem?_eq_getElem (by omega)]
        exact hl _ (List.getElem_mem (by omega))
      with_reducible refine CallOk.of (bytes_ok _ (And.left hp) (And.right hp)) rfl ?_
      simp (implicitDefEqProofs := false) (disch := omega) only [go_sem, reduceCtorEq, Nat.reduceEqDiff, Nat.reduceBEq, ↓reduceIte, Nat.reduceGT, Nat.reduceAdd, Int.reduceEq, Int.reduceLT, Int.reduceLE, Int.reduceNeg, Int.reduceAdd, Int.reduceSub, Int.reduceMul, Int.reduceDiv, Int.reduceMod, Nat.reduceLT, Nat.reduceLeDiff, Nat.reduceMul, Nat.reduceSub, Int.reduceToNat, go_sem, ↓ix_enc, encI_len, encI_take, Nat.le_refl, Try.results17]
      have hbl := bytesF_len (l.getD i 0)
      have hbb := bytesF_byte (l.getD i 0) hp
      have hst := textN_step (l := l) (i := i) (by omega)
      generalize bytesF (l.getD i 0) = b at *
      refine p_loop (ι := { p : Nat × Nat × List Int // p.1 ≤ b.length ∧ p.2.2 = textN (l.take i) ++ b.take p.1 }) (fun p => textT l b i p.1.1 p.1.2.1 p.1.2.2) (fun p => b.length - p.1.1) ⟨(0, tk, textN (l.take i)), Nat.zero_le _, by simp⟩ ?_ ?_
      · simp only [textT]
        refine ⟨?_, ?_, tokC_weak _ _ _, ?_, ?_, ?_, ?_⟩ <;> simp only [mem_cons_, mem_nil_, lkp, PV.lt, PV.ltL, PObj.lt, decide_true, Bool.and_true, Bool.and_self, Nat.reduceLT, Nat.reduceLeDiff, Nat.reduceEqDiff, if_true, if_false, ↓reduceIte, and_true, true_and, Nat.zero_le, reduceCtorEq, eq_self, decide_eq_true_eq, rowC_lt, Int.natCast_zero] <;> try omega
      · rintro ⟨⟨k, tk2, xs⟩, hk, hx⟩
        simp only at hk hx ⊢
        have hxl := congrArg List.length hx
        rw [List.length_append, List.length_take] at hxl
        simp only [textT]
        simp (implicitDefEqProofs := false) (disch := omega) only [go_sem, reduceCtorEq, Nat.reduceEqDiff, Nat.reduceBEq, ↓reduceIte, Nat.reduceGT, Nat.reduceAdd, Int.reduceEq, Int.reduceLT, Int.reduceLE, Int.reduceNeg, Int.reduceAdd, Int.reduceSub, Int.reduceMul, Int.reduceDiv, Int.reduceMod, Nat.reduceLT, Nat.reduceLeDiff, Nat.reduceMul, Nat.reduceSub, Int.reduceToNat, go_sem, ↓ix_enc, encI_len, encI_take, Nat.le_refl, Try.results17]
        with_reducible refine ifK_split (fun hlt2 => ?_) (fun hge2 => ?_)
        · have hgk : 0 ≤ b.getD k 0 ∧ b.getD k 0 ≤ 255 := by
            rw [List.getD_eq_getElem?_getD, List.getElem?_eq_getElem (by omega)]
            exact hbb _ (List.getElem_mem (by omega))
          have hx2 : xs ++ [b.getD k 0] = textN (l.take i) ++ b.take (k + 1) := by rw [hx, take_snocI (by omega), List.append_assoc]
          cases xs with
          | nil =>
            simp only [rowC, tokC]
            simp (implicitDefEqProofs := false) (disch := omega) only [go_sem, reduceCtorEq, Nat.reduceEqDiff, Nat.reduceBEq, ↓reduceIte, Nat.reduceGT, Nat.reduceAdd, Int.reduceEq, Int.reduceLT, Int.reduceLE, Int.reduceNeg, Int.reduceAdd, Int.reduceSub, Int.reduceMul, Int.reduceDiv, Int.reduceMod, Nat.reduceLT, Nat.reduceLeDiff, Nat.reduceMul, Nat.reduceSub, Int.reduceToNat, go_sem, ↓ix_enc, encI_len, encI_take, Nat.le_refl, Try.results17, wrap8 hgk.1 hgk.2]
            refine ⟨⟨(k + 1, tk2 + 1 + 1 + 2 + 7, [b.getD k 0]), by simp only; omega, by simpa using hx2⟩, by simp only; omega, ?_⟩
            simp only [textT, rowC, tokC, ← encC_one]
            refine ⟨?_, ?_, ?_, ?_, ?_, ?_, ?_⟩ <;> simp only [mem_cons_, mem_nil_, lkp, PV.lt, PV.ltL, PObj.lt, decide_true, Bool.and_true, Bool.and_self, Nat.reduceLT, Nat.reduceLeDiff, Nat.reduceEqDiff, if_true, if_false, ↓reduceIte, and_true, true_and, Nat.zero_le, reduceCtorEq, eq_self, decide_eq_true_eq, Int.natCast_add, Int.natCast_one, List.length_singleton, ite_self, List.length_nil, Nat.zero_add] <;> try first | omega | ((repeat' (first | exact And.intro rfl (by omega) | (refine And.intro ?_ ?_))) <;> first | rfl | omega | (congr 3; omega) | (congr 2; omega))
          | cons x r =>
            simp only [List.length_cons] at hxl
            have hrl : r.length ≤ 5000000 := by omega
            simp only [rowC, tokC]
            simp (implicitDefEqProofs := false) (disch := omega) only [go_sem, reduceCtorEq, Nat.reduceEqDiff, Nat.reduceBEq, ↓reduceIte, Nat.reduceGT, Nat.reduceAdd, Int.reduceEq, Int.reduceLT, Int.reduceLE, Int.reduceNeg, Int.reduceAdd, Int.reduceSub, Int.reduceMul, Int.reduceDiv, Int.reduceMod, Nat.reduceLT, Nat.reduceLeDiff, Nat.reduceMul, Nat.reduceSub, Int.reduceToNat, go_sem, ↓ix_enc, encI_len, encI_take, Nat.le_refl, Try.results17, wrap8 hgk.1 hgk.2]
            refine ⟨⟨(k + 1, tk2, x :: (r ++ [b.getD k 0])), by simp only; omega, by simpa using hx2⟩, by simp only; omega, ?_⟩
            simp only [textT, rowC, tokC]
            refine ⟨?_, ?_, ?_, ?_, ?_, ?_, ?_⟩ <;> simp only [mem_cons_, mem_nil_, lkp, PV.lt, PV.ltL, PObj.lt, decide_true, Bool.and_true, Bool.and_self, Nat.reduceLT, Nat.reduceLeDiff, Nat.reduceEqDiff, if_true, if_false, ↓reduceIte, and_true, true_and, Nat.zero_le, reduceCtorEq, eq_self, decide_eq_true_eq, Int.natCast_add, Int.natCast_one, List.length_cons, List.length_append, List.length_singleton] <;> try first | omega | ((repeat' (first | exact And.intro rfl (by omega) | (refine And.intro ?_ ?_))) <;> first | rfl | omega | (congr 3; omega) | (congr 2; omega))
        · have hkb : k = b.length := by omega
          rw [hkb, List.take_length, ← hst] at hx
          subst hx
          simp (implicitDefEqProofs := false) (disch := omega) only [go_sem, reduceCtorEq, Nat.reduceEqDiff, Nat.reduceBEq, ↓reduceIte, Nat.reduceGT, Nat.reduceAdd, Int.reduceEq, Int.reduceLT, Int.reduceLE, Int.reduceNeg, Int.reduceAdd, Int.reduceSub, Int.reduceMul, Int.reduceDiv, Int.reduceMod, Nat.reduceLT, Nat.reduceLeDiff, Nat.reduceMul, Nat.reduceSub, Int.reduceToNat, go_sem, ↓ix_enc, encI_len, encI_take, Nat.le_refl, Try.results17]
          refine ⟨⟨(i + 1, tk2), by simp only; omega⟩, by simp only; omega, ?_⟩
          simp only [textS]
          refine ⟨?_, ?_, tokC_weak _ _ _, ?_, ?_, ?_, ?_⟩ <;> simp only [mem_cons_, mem_nil_, lkp, PV.lt, PV.ltL, PObj.lt, decide_true, Bool.and_true, Bool.and_self, Nat.reduceLT, Nat.reduceLeDiff, Nat.reduceEqDiff, if_true, if_false, ↓reduceIte, and_true, true_and, Nat.zero_le, reduceCtorEq, eq_self, decide_eq_true_eq, rowC_lt, Int.natCast_add, Int.natCast_one] <;> try omega
    · have hii : i = l.length := by omega
      subst hii
      rw [List.take_length]
      simp (implicitDefEqProofs := false) (disch := omega) only [go_sem, reduceCtorEq, Nat.reduceEqDiff, Nat.reduceBEq, ↓reduceIte, Nat.reduceGT, Nat.reduceAdd, Int.reduceEq, Int.reduceLT, Int.reduceLE, Int.reduceNeg, Int.reduceAdd, Int.reduceSub, Int.reduceMul, Int.reduceDiv, Int.reduceMod, Nat.reduceLT, Nat.reduceLeDiff, Nat.reduceMul, Nat.reduceSub, Int.reduceToNat, go_sem, ↓ix_enc, encI_len, encI_take, Nat.le_refl, Try.results17]
end Go.Proofs.Ytfhdokpcnkpcpaa
