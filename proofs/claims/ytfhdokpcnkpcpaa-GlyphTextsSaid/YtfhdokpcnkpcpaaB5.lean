/-
  glyph.Valid; the points of points' bytes.
-/
import Derived.Test.YtfhdokpcnkpcpaaB4
open Go Go.Proofs Go.Pw Go.RowKit
namespace Go.Proofs.Ytfhdokpcnkpcpaa
set_option linter.unusedVariables false
set_option linter.unusedSimpArgs false
theorem v1_ok (n : Int) : Ok Try.prog 31 [vI n] (.tup []) := by
  refine Ok.of_pwp (by kernel_rfl) Try.func31 rfl (by kernel_rfl) (by kernel_rfl) ?_
  simp (implicitDefEqProofs := false) (disch := omega) only [go_sem, reduceCtorEq, Nat.reduceEqDiff, Nat.reduceBEq, ↓reduceIte, Nat.reduceGT, Nat.reduceAdd, Int.reduceEq, Int.reduceLT, Int.reduceLE, Int.reduceNeg, Int.reduceAdd, Int.reduceSub, Int.reduceMul, Int.reduceDiv, Int.reduceMod, Nat.reduceLT, Nat.reduceLeDiff, Nat.reduceMul, Nat.reduceSub, Int.reduceToNat, go_sem, Nat.le_refl, ↓ix_enc, encI_len, Try.results31]
set_option maxHeartbeats 4000000 in
theorem walk0_ok (s : ByteArray) (hs : s.size ≤ 1000000) : Ok Try.prog 27 [vS s, .fn 31 []] (vI (scan s 0).2) := by
  refine Ok.of_pwp (by kernel_rfl) Try.func27 rfl (by kernel_rfl) (by kernel_rfl) ?_
  generalize hr : (scan s 0).2 = rr
  simp (implicitDefEqProofs := false) (disch := omega) only [go_sem, reduceCtorEq, Nat.reduceEqDiff, Nat.reduceBEq, ↓reduceIte, Nat.reduceGT, Nat.reduceAdd, Int.reduceEq, Int.reduceLT, Int.reduceLE, Int.reduceNeg, Int.reduceAdd, Int.reduceSub, Int.reduceMul, Int.reduceDiv, Int.reduceMod, Nat.reduceLT, Nat.reduceLeDiff, Nat.reduceMul, Nat.reduceSub, Int.reduceToNat, go_sem, Nat.le_refl, ↓ix_enc, encI_len, Try.results27]
  refine p_loop (ι := { i : Nat // i ≤ s.size ∧ rr = (scan s i).2 })
    (fun p => ⟨[(5, vI p.1), (0, vS s), (1, .fn 31 [])], [], [], 0, 0⟩) (fun p => s.size - p.1) ⟨0, Nat.zero_le _, hr.symm⟩ ?_ ?_
  · refine ⟨?_, ?_, ?_, ?_, ?_, ?_, ?_⟩ <;> simp only [mem_cons_, mem_nil_, lkp, PV.lt, PV.ltL, PObj.lt, decide_true, Bool.and_true, Bool.and_self, Nat.reduceLT, Nat.reduceLeDiff, Nat.reduceEqDiff, if_true, if_false, ↓reduceIte, and_true, true_and, Nat.zero_le, reduceCtorEq, eq_self, decide_eq_true_eq, Int.natCast_zero] <;> try first | omega | ((repeat' (first | exact And.intro rfl (by omega) | (refine And.intro ?_ ?_))) <;> first | rfl | omega | (congr 3; omega) | (congr 2; omega))
  · rintro ⟨i, h1, h5⟩
    simp only at h1 h5 ⊢
    simp (implicitDefEqProofs := false) (disch := omega) only [go_sem, reduceCtorEq, Nat.reduceEqDiff, Nat.reduceBEq, ↓reduceIte, Nat.reduceGT, Nat.reduceAdd, Int.reduceEq, Int.reduceLT, Int.reduceLE, Int.reduceNeg, Int.reduceAdd, Int.reduceSub, Int.reduceMul, Int.reduceDiv, Int.reduceMod, Nat.reduceLT, Nat.reduceLeDiff, Nat.reduceMul, Nat.reduceSub, Int.reduceToNat, go_sem, Nat.le_refl, ↓ix_enc, encI_len, Try.results27]
    with_reducible refine ifK_split (fun hlt => ?_) (fun hge => ?_)
    · have hlt' : i < s.size := by omega
      have d := decode_ok0 (s.extract i s.size) (by rw [Lib.tail_size]; omega)
      rw [decF_tail hlt'] at d
      simp (implicitDefEqProofs := false) (disch := omega) only [go_sem, reduceCtorEq, Nat.reduceEqDiff, Nat.reduceBEq, ↓reduceIte, Nat.reduceGT, Nat.reduceAdd, Int.reduceEq, Int.reduceLT, Int.reduceLE, Int.reduceNeg, Int.reduceAdd, Int.reduceSub, Int.reduceMul, Int.reduceDiv, Int.reduceMod, Nat.reduceLT, Nat.reduceLeDiff, Nat.reduceMul, Nat.reduceSub, Int.reduceToNat, go_sem, Nat.le_refl, ↓ix_enc, encI_len, Try.results27]
      by_cases hb : Utf8.decode s i = (65533, 1)
      · rw [hb] at d
        rw [scan_bad hlt' hb] at h5
        simp only [goodN, if_true] at d
        with_reducible refine CallOk.of d rfl ?_
        simp (implicitDefEqProofs := false) (disch := omega) only [go_sem, reduceCtorEq, Nat.reduceEqDiff, Nat.reduceBEq, ↓reduceIte, Nat.reduceGT, Nat.reduceAdd, Int.reduceEq, Int.reduceLT, Int.reduceLE, Int.reduceNeg, Int.reduceAdd, Int.reduceSub, Int.reduceMul, Int.reduceDiv, Int.reduceMod, Nat.reduceLT, Nat.reduceLeDiff, Nat.reduceMul, Nat.reduceSub, Int.reduceToNat, go_sem, Nat.le_refl, ↓ix_enc, encI_len, Try.results27]
        rw [h5]
      · rw [goodN, if_neg hb] at d
        have hp := dec_pos s i hlt'
        rw [scan_step hlt' hb] at h5
        generalize Utf8.decode s i = q at *
        with_reducible refine CallOk.of d rfl ?_
        have hd0 : ¬ ((q.2 : Int) = 0) := by omega
        simp (implicitDefEqProofs := false) (disch := omega) only [go_sem, reduceCtorEq, Nat.reduceEqDiff, Nat.reduceBEq, ↓reduceIte, Nat.reduceGT, Nat.reduceAdd, Int.reduceEq, Int.reduceLT, Int.reduceLE, Int.reduceNeg, Int.reduceAdd, Int.reduceSub, Int.reduceMul, Int.reduceDiv, Int.reduceMod, Nat.reduceLT, Nat.reduceLeDiff, Nat.reduceMul, Nat.reduceSub, Int.reduceToNat, go_sem, Nat.le_refl, ↓ix_enc, encI_len, Try.results27]
        with_reducible refine CallOk.of (v1_ok _) rfl ?_
        simp (implicitDefEqProofs := false) (disch := omega) only [go_sem, reduceCtorEq, Nat.reduceEqDiff, Nat.reduceBEq, ↓reduceIte, Nat.reduceGT, Nat.reduceAdd, Int.reduceEq, Int.reduceLT, Int.reduceLE, Int.reduceNeg, Int.reduceAdd, Int.reduceSub, Int.reduceMul, Int.reduceDiv, Int.reduceMod, Nat.reduceLT, Nat.reduceLeDiff, Nat.reduceMul, Nat.reduceSub, Int.reduceToNat, go_sem, Nat.le_refl, ↓ix_enc, encI_len, Try.results27]
        refine ⟨⟨i + q.2, by omega, h5⟩, by simp only; omega, ?_⟩
        refine ⟨?_, ?_, ?_, ?_, ?_, ?_, ?_⟩ <;> simp only [mem_cons_, mem_nil_, lkp, PV.lt, PV.ltL, PObj.lt, decide_true, Bool.and_true, Bool.and_self, Nat.reduceLT, Nat.reduceLeDiff, Nat.reduceEqDiff, if_true, if_false, ↓reduceIte, and_true, true_and, Nat.zero_le, reduceCtorEq, eq_self, decide_eq_true_eq, Int.natCast_add] <;> try first | omega | ((repeat' (first | exact And.intro rfl (by omega) | (refine And.intro ?_ ?_))) <;> first | rfl | omega | (congr 3; omega) | (congr 2; omega))
    · rw [scan_end (by omega)] at h5
      simp (implicitDefEqProofs := false) (disch := omega) only [go_sem, reduceCtorEq, Nat.reduceEqDiff, Nat.reduceBEq, ↓reduceIte, Nat.reduceGT, Nat.reduceAdd, Int.reduceEq, Int.reduceLT, Int.reduceLE, Int.reduceNeg, Int.reduceAdd, Int.reduceSub, Int.reduceMul, Int.reduceDiv, Int.reduceMod, Nat.reduceLT, Nat.reduceLeDiff, Nat.reduceMul, Nat.reduceSub, Int.reduceToNat, go_sem, Nat.le_refl, ↓ix_enc, encI_len, Try.results27]
      rw [h5]
def validF (s : ByteArray) : PV := if (scan s 0).2 = s.size then .tup [vI 0, vB true] else .tup [vI (scan s 0).2, vB false]
theorem valid_ok (s : ByteArray) (hs : s.size ≤ 1000000) : Ok Try.prog 23 [vS s] (validF s) := by
  refine Ok.of_pwp (by kernel_rfl) Try.func23 rfl (by kernel_rfl) (by kernel_rfl) ?_
  unfold validF
  have hl := scan_len s 0 (Nat.zero_le _)
  have w0 := walk0_ok s hs
  simp (implicitDefEqProofs := false) (disch := omega) only [go_sem, reduceCtorEq, Nat.reduceEqDiff, Nat.reduceBEq, ↓reduceIte, Nat.reduceGT, Nat.reduceAdd, Int.reduceEq, Int.reduceLT, Int.reduceLE, Int.reduceNeg, Int.reduceAdd, Int.reduceSub, Int.reduceMul, Int.reduceDiv, Int.reduceMod, Nat.reduceLT, Nat.reduceLeDiff, Nat.reduceMul, Nat.reduceSub, Int.reduceToNat, go_sem, Nat.le_refl, ↓ix_enc, encI_len, Try.results23]
  with_reducible refine CallOk.of w0 rfl ?_
  simp (implicitDefEqProofs := false) (disch := omega) only [go_sem, reduceCtorEq, Nat.reduceEqDiff, Nat.reduceBEq, ↓reduceIte, Nat.reduceGT, Nat.reduceAdd, Int.reduceEq, Int.reduceLT, Int.reduceLE, Int.reduceNeg, Int.reduceAdd, Int.reduceSub, Int.reduceMul, Int.reduceDiv, Int.reduceMod, Nat.reduceLT, Nat.reduceLeDiff, Nat.reduceMul, Nat.reduceSub, Int.reduceToNat, go_sem, Nat.le_refl, ↓ix_enc, encI_len, Try.results23]
  with_reducible refine ifK_split (fun hlt => ?_) (fun hge => ?_)
  · rw [if_neg (by omega)]
    simp (implicitDefEqProofs := false) (disch := omega) only [go_sem, reduceCtorEq, Nat.reduceEqDiff, Nat.reduceBEq, ↓reduceIte, Nat.reduceGT, Nat.reduceAdd, Int.reduceEq, Int.reduceLT, Int.reduceLE, Int.reduceNeg, Int.reduceAdd, Int.reduceSub, Int.reduceMul, Int.reduceDiv, Int.reduceMod, Nat.reduceLT, Nat.reduceLeDiff, Nat.reduceMul, Nat.reduceSub, Int.reduceToNat, go_sem, Nat.le_refl, ↓ix_enc, encI_len, Try.results23]
  · rw [if_pos (by omega)]
    simp (implicitDefEqProofs := false) (disch := omega) only [go_sem, reduceCtorEq, Nat.reduceEqDiff, Nat.reduceBEq, ↓reduceIte, Nat.reduceGT, Nat.reduceAdd, Int.reduceEq, Int.reduceLT, Int.reduceLE, Int.reduceNeg, Int.reduceAdd, Int.reduceSub, Int.reduceMul, Int.reduceDiv, Int.reduceMod, Nat.reduceLT, Nat.reduceLeDiff, Nat.reduceMul, Nat.reduceSub, Int.reduceToNat, go_sem, Nat.le_refl, ↓ix_enc, encI_len, Try.results23]
theorem scan_text : ∀ (l : List Int), l.all isF = true → scan (strOfNums (textN l)) 0 = (l, (strOfNums (textN l)).size)
  | [], _ => by rw [scan_end (by decide)]; rfl
  | n :: r, h => by
    rw [List.all_cons, Bool.and_eq_true] at h
    have ih := scan_text r h.2
    have e : strOfNums (textN (n :: r)) = strOfNums (bytesF n) ++ strOfNums (textN r) := by rw [strOf_app]; rfl
    have d := dec_enc n h.1 (strOfNums (textN r))
    have bl := bytesF_len n
    rw [e]
    generalize strOfNums (textN r) = t at *
    have hsz : (strOfNums (bytesF n) ++ t).size = (bytesF n).length + t.size := by rw [ByteArray.size_append, strOf_len]
    have hlt : 0 < (strOfNums (bytesF n) ++ t).size := by omega
    unfold goodN at d
    split at d
    · simp at d
      omega
    · rename_i hb
      rw [scan_step hlt hb]
      injection d with d1 d2
      have d3 : (Utf8.decode (strOfNums (bytesF n) ++ t) 0).2 = (bytesF n).length := by omega
      have sr := scan_right (strOfNums (bytesF n)) t 0
      rw [strOf_len, Nat.add_zero, ih] at sr
      rw [d1, d3, Nat.zero_add, sr, hsz]
end Go.Proofs.Ytfhdokpcnkpcpaa
