/-
  glyph.Text: the bytes of points, or none.
-/
import Derived.Test.YtfhdokpcnkpcpaaB3
import Derived.Test.YtfhdokpcnkpcpaaG9
open Go Go.Proofs Go.Pw Go.RowKit
namespace Go.Proofs.Ytfhdokpcnkpcpaa
set_option linter.unusedVariables false
set_option linter.unusedSimpArgs false
theorem strOf_app (a b : List Int) : strOfNums a ++ strOfNums b = strOfNums (a ++ b) := by
  apply ByteArray.ext
  simp [strOfNums]
theorem strOf_len (a : List Int) : (strOfNums a).size = a.length := by
  show (strOfNums a).data.size = _
  simp [strOfNums]
theorem encF_eq (n : Int) (h : isF n = true) : encF n = strOfNums (bytesF n) := by
  unfold encF
  rw [if_pos h, enc_bytes n h]
def adrB (i : Nat) : PV := if i = 0 then vNP else .ptr 2 0
def gtextF (l : List Int) : PV := if l.all isF = true then .tup [vS (strOfNums (textN l)), vB true] else .tup [vS ⟨#[]⟩, vB false]
set_option maxHeartbeats 4000000 in
theorem gtext_ok (l : List Int) (hl : l.length ≤ 100000) : Ok Try.prog 21 [.sl (encI l)] (gtextF l) := by
  refine Ok.of_pwp (by kernel_rfl) Try.func21 rfl (by kernel_rfl) (by kernel_rfl) ?_
  generalize hr : gtextF l = rr
  simp (implicitDefEqProofs := false) (disch := omega) only [go_sem, reduceCtorEq, Nat.reduceEqDiff, Nat.reduceBEq, ↓reduceIte, Nat.reduceGT, Nat.reduceAdd, Int.reduceEq, Int.reduceLT, Int.reduceLE, Int.reduceNeg, Int.reduceAdd, Int.reduceSub, Int.reduceMul, Int.reduceDiv, Int.reduceMod, Nat.reduceLT, Nat.reduceLeDiff, Nat.reduceMul, Nat.reduceSub, Int.reduceToNat, go_sem, Nat.le_refl, ↓ix_enc, encI_len, Try.results21]
  refine p_loop (ι := { p : Nat × Nat × Nat // p.1 ≤ l.length ∧ p.2.1 < p.2.2 ∧ (l.take p.1).all isF = true })
    (fun p => ⟨[(9, vI p.1.1), (8, vI l.length), (7, .sl (encI l)), (4, .ptr 2 0), (0, .sl (encI l))], bldH 2 p.1.2.1 (adrB p.1.1) (strOfNums (textN (l.take p.1.1))), tokS p.1.2.1 5 (strOfNums (textN (l.take p.1.1))), 3, p.1.2.2⟩) (fun p => l.length - p.1.1) ⟨(0, 0, 1), Nat.zero_le _, by decide, by simp⟩ ?_ ?_
  · refine ⟨?_, bld_weak 2 0 3 1 vNP ⟨#[]⟩ (by decide) (by decide) rfl, (fun e he => by cases he), by simp only; omega, by simp only; omega, Nat.zero_le _, Nat.zero_le _⟩
    simp only [mem_cons_, mem_nil_, lkp, PV.lt, PV.ltL, Nat.reduceEqDiff, if_true, if_false, ↓reduceIte, and_true, true_and, Int.natCast_zero, Bool.and_true, decide_eq_true_eq, reduceCtorEq, Nat.reduceLT]
  · rintro ⟨⟨i, k, nt1⟩, h1, h2, h3⟩
    simp only at h1 h2 h3 ⊢
    have tl := textN_len (l.take i)
    rw [List.length_take] at tl
    generalize hs : strOfNums (textN (l.take i)) = s at *
    have hss : s.size ≤ 400000 := by rw [← hs, strOf_len]; omega
    simp (implicitDefEqProofs := false) (disch := omega) only [go_sem, reduceCtorEq, Nat.reduceEqDiff, Nat.reduceBEq, ↓reduceIte, Nat.reduceGT, Nat.reduceAdd, Int.reduceEq, Int.reduceLT, Int.reduceLE, Int.reduceNeg, Int.reduceAdd, Int.reduceSub, Int.reduceMul, Int.reduceDiv, Int.reduceMod, Nat.reduceLT, Nat.reduceLeDiff, Nat.reduceMul, Nat.reduceSub, Int.reduceToNat, go_sem, Nat.le_refl, ↓ix_enc, encI_len, Try.results21]
    with_reducible refine ifK_split (fun hlt => ?_) (fun hge => ?_)
    · simp (implicitDefEqProofs := false) (disch := omega) only [go_sem, reduceCtorEq, Nat.reduceEqDiff, Nat.reduceBEq, ↓reduceIte, Nat.reduceGT, Nat.reduceAdd, Int.reduceEq, Int.reduceLT, Int.reduceLE, Int.reduceNeg, Int.reduceAdd, Int.reduceSub, Int.reduceMul, Int.reduceDiv, Int.reduceMod, Nat.reduceLT, Nat.reduceLeDiff, Nat.reduceMul, Nat.reduceSub, Int.reduceToNat, go_sem, Nat.le_refl, ↓ix_enc, encI_len, Try.results21]
      with_reducible refine CallOk.of (gis_ok (l.getD i 0)) rfl ?_
      cases hf : isF (l.getD i 0) with
      | false =>
        simp (implicitDefEqProofs := false) (disch := omega) only [go_sem, reduceCtorEq, Nat.reduceEqDiff, Nat.reduceBEq, ↓reduceIte, Nat.reduceGT, Nat.reduceAdd, Int.reduceEq, Int.reduceLT, Int.reduceLE, Int.reduceNeg, Int.reduceAdd, Int.reduceSub, Int.reduceMul, Int.reduceDiv, Int.reduceMod, Nat.reduceLT, Nat.reduceLeDiff, Nat.reduceMul, Nat.reduceSub, Int.reduceToNat, go_sem, Nat.le_refl, ↓ix_enc, encI_len, Try.results21]
        rw [← hr, gtextF, if_neg]
        intro h
        have := List.all_eq_true.1 h (l.getD i 0) (by rw [List.getD_eq_getElem?_getD, List.getElem?_eq_getElem (by omega)]; exact List.getElem_mem (by omega))
        rw [hf] at this
        cases this
      | true =>
        simp (implicitDefEqProofs := false) (disch := omega) only [go_sem, reduceCtorEq, Nat.reduceEqDiff, Nat.reduceBEq, ↓reduceIte, Nat.reduceGT, Nat.reduceAdd, Int.reduceEq, Int.reduceLT, Int.reduceLE, Int.reduceNeg, Int.reduceAdd, Int.reduceSub, Int.reduceMul, Int.reduceDiv, Int.reduceMod, Nat.reduceLT, Nat.reduceLeDiff, Nat.reduceMul, Nat.reduceSub, Int.reduceToNat, go_sem, Nat.le_refl, ↓ix_enc, encI_len, Try.results21]
        with_reducible refine CallOk.of (encode_ok (l.getD i 0)) rfl ?_
        rw [encF_eq _ hf]
        simp (implicitDefEqProofs := false) (disch := omega) only [go_sem, reduceCtorEq, Nat.reduceEqDiff, Nat.reduceBEq, ↓reduceIte, Nat.reduceGT, Nat.reduceAdd, Int.reduceEq, Int.reduceLT, Int.reduceLE, Int.reduceNeg, Int.reduceAdd, Int.reduceSub, Int.reduceMul, Int.reduceDiv, Int.reduceMod, Nat.reduceLT, Nat.reduceLeDiff, Nat.reduceMul, Nat.reduceSub, Int.reduceToNat, go_sem, Nat.le_refl, ↓ix_enc, encI_len, Try.results21]
        have bl := bytesF_len (l.getD i 0)
        have ha : adrB i = vNP ∨ adrB i = .ptr 2 0 := by unfold adrB; split; exact .inl rfl; exact .inr rfl
        refine CallOk.ofI (write_ok s _ 2 k _ _ (adrB i) ha (by omega) (by omega) (by rw [strOf_len]; omega) (by rw [strOf_len]; omega)) rfl rfl rfl rfl ?_
        rintro r ⟨e1, p1, t1, x1, y1⟩ ⟨rfl, k', g1, g2, g3, g4, g5⟩
        simp only at g1 g2 g3 g4 g5
        subst g3 g4 g5
        simp (implicitDefEqProofs := false) (disch := omega) only [go_sem, reduceCtorEq, Nat.reduceEqDiff, Nat.reduceBEq, ↓reduceIte, Nat.reduceGT, Nat.reduceAdd, Int.reduceEq, Int.reduceLT, Int.reduceLE, Int.reduceNeg, Int.reduceAdd, Int.reduceSub, Int.reduceMul, Int.reduceDiv, Int.reduceMod, Nat.reduceLT, Nat.reduceLeDiff, Nat.reduceMul, Nat.reduceSub, Int.reduceToNat, go_sem, Nat.le_refl, ↓ix_enc, encI_len, Try.results21]
        have hi : i < l.length := by omega
        refine ⟨⟨(i + 1, k', y1), by simp only; omega, g2, by
          rw [take_snocI hi, List.all_append, h3, List.all_cons, hf]; rfl⟩, by simp only; omega, ?_⟩
        have ea : adrB (i + 1) = .ptr 2 0 := rfl
        simp only
        rw [ea, textN_step hi, ← strOf_app, hs]
        refine ⟨?_, bld_weak _ _ _ _ _ _ (show 2 < 3 by decide) g2 rfl, tokS_weak _ _ _ _ g2, by simp only; omega, by simp only; omega, Nat.zero_le _, Nat.zero_le _⟩
        simp only [mem_cons_, mem_nil_, lkp, PV.lt, PV.ltL, Nat.reduceEqDiff, if_true, if_false, ↓reduceIte, and_true, true_and, Int.natCast_add, Bool.and_true, decide_eq_true_eq, reduceCtorEq]
        exact ⟨rfl, by decide⟩
    · simp (implicitDefEqProofs := false) (disch := omega) only [go_sem, reduceCtorEq, Nat.reduceEqDiff, Nat.reduceBEq, ↓reduceIte, Nat.reduceGT, Nat.reduceAdd, Int.reduceEq, Int.reduceLT, Int.reduceLE, Int.reduceNeg, Int.reduceAdd, Int.reduceSub, Int.reduceMul, Int.reduceDiv, Int.reduceMod, Nat.reduceLT, Nat.reduceLeDiff, Nat.reduceMul, Nat.reduceSub, Int.reduceToNat, go_sem, Nat.le_refl, ↓ix_enc, encI_len, Try.results21]
      refine CallOk.ofI (string_ok s 2 k _ _ (adrB i)) rfl rfl rfl rfl ?_
      rintro r st1 ⟨rfl, rfl⟩
      simp (implicitDefEqProofs := false) (disch := omega) only [go_sem, reduceCtorEq, Nat.reduceEqDiff, Nat.reduceBEq, ↓reduceIte, Nat.reduceGT, Nat.reduceAdd, Int.reduceEq, Int.reduceLT, Int.reduceLE, Int.reduceNeg, Int.reduceAdd, Int.reduceSub, Int.reduceMul, Int.reduceDiv, Int.reduceMod, Nat.reduceLT, Nat.reduceLeDiff, Nat.reduceMul, Nat.reduceSub, Int.reduceToNat, go_sem, Nat.le_refl, ↓ix_enc, encI_len, Try.results21]
      rw [← hr, gtextF, if_pos, ← hs, List.take_of_length_le (by omega)]
      rw [List.take_of_length_le (by omega)] at h3
      exact h3
end Go.Proofs.Ytfhdokpcnkpcpaa
