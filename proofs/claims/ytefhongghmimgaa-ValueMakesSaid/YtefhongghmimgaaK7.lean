/-
  Contracts and plain laws on the way to the statement; each says its own conditions.
-/
import Derived.Test.YtefhongghmimgaaK5
import Derived.Lib.RuneCountTail
import Derived.Lib.QuoteLoop
open Go Go.Proofs Go.Pw
namespace Go.Proofs.Ytefhongghmimgaa
set_option maxRecDepth 4000
set_option linter.unusedVariables false
set_option linter.unusedSimpArgs false
theorem dec_pos (s : ByteArray) (i : Nat) (h : i < s.size) : 1 ≤ (Utf8.decode s i).2 ∧ i + (Utf8.decode s i).2 ≤ s.size := by
  refine ⟨Lib.decode_width_pos s i h, ?_⟩
  rw [Lib.decode_at]
  have := Lib.decodeN_width_le (s.size - i) (s.get! i).toNat (s.get! (i + 1)).toNat (s.get! (i + 2)).toNat (s.get! (i + 3)).toNat (by omega)
  omega
/-- The points of bytes from a place on, as far as they are some; where that ends. -/
def scan (s : ByteArray) (i : Nat) : List Int × Nat :=
  if h : i < s.size then
    if Utf8.decode s i = (65533, 1) then ([], i) else (((Utf8.decode s i).1 : Int) :: (scan s (i + (Utf8.decode s i).2)).1, (scan s (i + (Utf8.decode s i).2)).2)
  else ([], i)
termination_by s.size - i
decreasing_by all_goals (have := dec_pos s i h; omega)
theorem scan_end {s : ByteArray} {i : Nat} (h : ¬ i < s.size) : scan s i = ([], i) := by rw [scan, dif_neg h]
theorem scan_bad {s : ByteArray} {i : Nat} (h : i < s.size) (hb : Utf8.decode s i = (65533, 1)) : scan s i = ([], i) := by rw [scan, dif_pos h, if_pos hb]
theorem scan_step {s : ByteArray} {i : Nat} (h : i < s.size) (hb : ¬ Utf8.decode s i = (65533, 1)) : scan s i = (((Utf8.decode s i).1 : Int) :: (scan s (i + (Utf8.decode s i).2)).1, (scan s (i + (Utf8.decode s i).2)).2) := by rw [scan, dif_pos h, if_neg hb]
theorem scan_len (s : ByteArray) (i : Nat) (hi : i ≤ s.size) : i ≤ (scan s i).2 ∧ (scan s i).2 ≤ s.size ∧ (scan s i).1.length ≤ s.size - i := by
  by_cases h : i < s.size
  · by_cases hb : Utf8.decode s i = (65533, 1)
    · rw [scan_bad h hb]; exact ⟨by simp, by simpa using hi, by simp⟩
    · have hp := dec_pos s i h
      have ih := scan_len s (i + (Utf8.decode s i).2) hp.2
      rw [scan_step h hb]
      simp only [List.length_cons]
      omega
  · rw [scan_end h]; exact ⟨by simp, by simpa using hi, by simp⟩
termination_by s.size - i
theorem first_good {s : ByteArray} {i : Nat} (h : i < s.size) (hb : ¬ Utf8.decode s i = (65533, 1)) : firstF s i 4 1 = (((Utf8.decode s i).1 : Int), ((Utf8.decode s i).2 : Int)) := by rw [first_decode s i h, goodN, if_neg hb]
theorem first_bad {s : ByteArray} {i : Nat} (h : i < s.size) (hb : Utf8.decode s i = (65533, 1)) : firstF s i 4 1 = (-1, 0) := by rw [first_decode s i h, goodN, if_pos hb]
theorem decF_tail {s : ByteArray} {i : Nat} (h : i < s.size) : decF (s.extract i s.size) = goodN (Utf8.decode s i) := by
  rw [decF_good _ (by rw [Lib.tail_size]; omega), Lib.tail_decode, Nat.add_zero]
def rptsS (s : ByteArray) (i k : Nat) (xs : List Int) : PS :=
  ⟨[(4, rowI k xs), (5, vI i), (0, vS s)], [], tokI k 3 xs, 0, k + 1⟩
theorem rowI_lt (a k : Nat) (xs : List Int) : PV.lt a (k + 1) (rowI k xs) = true := by cases xs <;> simp [rowI, PV.lt]
theorem tokI_weak (k : Nat) (t : TypeId) (xs : List Int) : ∀ e ∈ tokI k t xs, lkp (tokI k t xs) e.1 = some e.2 ∧ e.1 < k + 1 := by
  cases xs with
  | nil => intro e he; cases he
  | cons x r =>
    intro e he
    simp only [tokI, List.mem_singleton] at he
    subst he
    exact ⟨by simp [tokI, lkp], by simp only; omega⟩
set_option maxHeartbeats 4000000 in
theorem rpoints_ok (s : ByteArray) (hs : s.size ≤ 1000000) : Ok Try.prog 42 [vS s] (.tup [.sl (encI (scan s 0).1), vI (scan s 0).2]) := by
  refine Ok.of_pwp (by kernel_rfl) Try.func42 rfl (by kernel_rfl) (by kernel_rfl) ?_
  generalize hr : scan s 0 = r
  simp (implicitDefEqProofs := false) (disch := omega) only [go_sem, reduceCtorEq, Nat.reduceEqDiff, Nat.reduceBEq, ↓reduceIte, Nat.reduceGT, Nat.reduceAdd, Int.reduceEq, Int.reduceLT, Int.reduceLE, Int.reduceNeg, Int.reduceAdd, Int.reduceSub, Int.reduceMul, Int.reduceDiv, Int.reduceMod, Nat.reduceLT, Nat.reduceLeDiff, Nat.reduceMul, Nat.reduceSub, Int.reduceToNat, go_sem, ↓ix_enc, encI_len, encI_take, Nat.le_refl, Try.results42]
  refine p_loop (ι := { p : Nat × Nat × List Int // p.1 ≤ s.size ∧ p.2.2.length ≤ p.1 ∧ r = (p.2.2 ++ (scan s p.1).1, (scan s p.1).2) }) (fun p => rptsS s p.1.1 p.1.2.1 p.1.2.2) (fun p => s.size - p.1.1) ⟨(0, 0, []), Nat.zero_le _, Nat.zero_le _, by simp [hr]⟩ ?_ ?_
  · simp only [rptsS, rowI, tokI]
    refine ⟨?_, ?_, ?_, ?_, ?_, ?_, ?_⟩ <;> simp only [mem_cons_, mem_nil_, lkp, hold_eq, b_some, frz_self, frz1_self, frzL_self, frzO_self, frzO_box, frzO_iter, frzL_cons, frzL_nil, frz_agg, frz1_row, frz1_nil, frz1_val, frz1_sl, frz1_rr, frz1_ptr, frz1_ms, frz_val, frz_sl, frz_row, frz_ptr, frz_ms, frz_fp, frz_tup, frz_fn, PV.lt, PV.ltL, PObj.lt, decide_true, Bool.and_true, Bool.and_self, Nat.reduceLT, Nat.reduceLeDiff, Nat.reduceEqDiff, if_true, if_false, ↓reduceIte, and_true, true_and, Nat.zero_le, reduceCtorEq, eq_self, decide_eq_true_eq, Int.natCast_zero] <;> try first | omega | ((repeat' (first | exact And.intro rfl (by omega) | (refine And.intro ?_ ?_))) <;> first | rfl | omega | (congr 3; omega) | (congr 2; omega))
  · rintro ⟨⟨i, k, xs⟩, h1, h2, h3⟩
    simp only at h1 h2 h3
    simp only [rptsS]
    simp (implicitDefEqProofs := false) (disch := omega) only [go_sem, reduceCtorEq, Nat.reduceEqDiff, Nat.reduceBEq, ↓reduceIte, Nat.reduceGT, Nat.reduceAdd, Int.reduceEq, Int.reduceLT, Int.reduceLE, Int.reduceNeg, Int.reduceAdd, Int.reduceSub, Int.reduceMul, Int.reduceDiv, Int.reduceMod, Nat.reduceLT, Nat.reduceLeDiff, Nat.reduceMul, Nat.reduceSub, Int.reduceToNat, go_sem, ↓ix_enc, encI_len, encI_take, Nat.le_refl, Try.results42]
    with_reducible refine ifK_split (fun hlt => ?_) (fun hge => ?_)
    · have hlt' : i < s.size := by omega
      have f := first_ok s i (by omega) (by omega) (by omega)
      by_cases hb : Utf8.decode s i = (65533, 1)
      · rw [first_bad hlt' hb] at f
        rw [scan_bad hlt' hb] at h3
        simp (implicitDefEqProofs := false) (disch := omega) only [go_sem, reduceCtorEq, Nat.reduceEqDiff, Nat.reduceBEq, ↓reduceIte, Nat.reduceGT, Nat.reduceAdd, Int.reduceEq, Int.reduceLT, Int.reduceLE, Int.reduceNeg, Int.reduceAdd, Int.reduceSub, Int.reduceMul, Int.reduceDiv, Int.reduceMod, Nat.reduceLT, Nat.reduceLeDiff, Nat.reduceMul, Nat.reduceSub, Int.reduceToNat, go_sem, ↓ix_enc, encI_len, encI_take, Nat.le_refl, Try.results42]
        with_reducible refine CallOk.of f rfl ?_
        simp (implicitDefEqProofs := false) (disch := omega) only [go_sem, reduceCtorEq, Nat.reduceEqDiff, Nat.reduceBEq, ↓reduceIte, Nat.reduceGT, Nat.reduceAdd, Int.reduceEq, Int.reduceLT, Int.reduceLE, Int.reduceNeg, Int.reduceAdd, Int.reduceSub, Int.reduceMul, Int.reduceDiv, Int.reduceMod, Nat.reduceLT, Nat.reduceLeDiff, Nat.reduceMul, Nat.reduceSub, Int.reduceToNat, go_sem, ↓ix_enc, encI_len, encI_take, Nat.le_refl, Try.results42]
        simp only [List.append_nil] at h3
        cases xs with
        | nil =>
          simp only [rowI]
          simp (implicitDefEqProofs := false) (disch := omega) only [go_sem, reduceCtorEq, Nat.reduceEqDiff, Nat.reduceBEq, ↓reduceIte, Nat.reduceGT, Nat.reduceAdd, Int.reduceEq, Int.reduceLT, Int.reduceLE, Int.reduceNeg, Int.reduceAdd, Int.reduceSub, Int.reduceMul, Int.reduceDiv, Int.reduceMod, Nat.reduceLT, Nat.reduceLeDiff, Nat.reduceMul, Nat.reduceSub, Int.reduceToNat, go_sem, ↓ix_enc, encI_len, encI_take, Nat.le_refl, Try.results42]
          rw [h3]; rfl
        | cons x q =>
          simp only [rowI]
          simp (implicitDefEqProofs := false) (disch := omega) only [go_sem, reduceCtorEq, Nat.reduceEqDiff, Nat.reduceBEq, ↓reduceIte, Nat.reduceGT, Nat.reduceAdd, Int.reduceEq, Int.reduceLT, Int.reduceLE, Int.reduceNeg, Int.reduceAdd, Int.reduceSub, Int.reduceMul, Int.reduceDiv, Int.reduceMod, Nat.reduceLT, Nat.reduceLeDiff, Nat.reduceMul, Nat.reduceSub, Int.reduceToNat, go_sem, ↓ix_enc, encI_len, encI_take, Nat.le_refl, Try.results42]
          rw [h3]
      · rw [first_good hlt' hb] at f
        have hp := dec_pos s i hlt'
        rw [scan_step hlt' hb] at h3
        generalize Utf8.decode s i = d at *
        simp (implicitDefEqProofs := false) (disch := omega) only [go_sem, reduceCtorEq, Nat.reduceEqDiff, Nat.reduceBEq, ↓reduceIte, Nat.reduceGT, Nat.reduceAdd, Int.reduceEq, Int.reduceLT, Int.reduceLE, Int.reduceNeg, Int.reduceAdd, Int.reduceSub, Int.reduceMul, Int.reduceDiv, Int.reduceMod, Nat.reduceLT, Nat.reduceLeDiff, Nat.reduceMul, Nat.reduceSub, Int.reduceToNat, go_sem, ↓ix_enc, encI_len, encI_take, Nat.le_refl, Try.results42]
        with_reducible refine CallOk.of f rfl ?_
        have hd0 : ¬ ((d.2 : Int) = 0) := by omega
        cases xs with
        | nil =>
          simp only [rowI, tokI]
          simp (implicitDefEqProofs := false) (disch := omega) only [go_sem, reduceCtorEq, Nat.reduceEqDiff, Nat.reduceBEq, ↓reduceIte, Nat.reduceGT, Nat.reduceAdd, Int.reduceEq, Int.reduceLT, Int.reduceLE, Int.reduceNeg, Int.reduceAdd, Int.reduceSub, Int.reduceMul, Int.reduceDiv, Int.reduceMod, Nat.reduceLT, Nat.reduceLeDiff, Nat.reduceMul, Nat.reduceSub, Int.reduceToNat, go_sem, ↓ix_enc, encI_len, encI_take, Nat.le_refl, Try.results42]
          refine ⟨⟨(i + d.2, k + 1 + 4 + 8 + 2 + 3, [(d.1 : Int)]), by simp only; omega, by simp only [List.length_singleton]; omega, by simpa using h3⟩, by simp only; omega, ?_⟩
          simp only [rptsS, rowI, tokI, ← encI_one]
          refine ⟨?_, ?_, ?_, ?_, ?_, ?_, ?_⟩ <;> simp only [mem_cons_, mem_nil_, lkp, hold_eq, b_some, frz_self, frz1_self, frzL_self, frzO_self, frzO_box, frzO_iter, frzL_cons, frzL_nil, frz_agg, frz1_row, frz1_nil, frz1_val, frz1_sl, frz1_rr, frz1_ptr, frz1_ms, frz_val, frz_sl, frz_row, frz_ptr, frz_ms, frz_fp, frz_tup, frz_fn, PV.lt, PV.ltL, PObj.lt, decide_true, Bool.and_true, Bool.and_self, Nat.reduceLT, Nat.reduceLeDiff, Nat.reduceEqDiff, if_true, if_false, ↓reduceIte, and_true, true_and, Nat.zero_le, reduceCtorEq, eq_self, decide_eq_true_eq, Int.natCast_add, List.length_singleton, ite_self] <;> try first | omega | ((repeat' (first | exact And.intro rfl (by omega) | (refine And.intro ?_ ?_))) <;> first | rfl | omega | (congr 3; omega) | (congr 2; omega))
        | cons x q =>
          simp only [List.length_cons] at h2
          have hq : q.length ≤ 1000000 := by omega
          simp only [rowI, tokI]
          simp (implicitDefEqProofs := false) (disch := omega) only [go_sem, reduceCtorEq, Nat.reduceEqDiff, Nat.reduceBEq, ↓reduceIte, Nat.reduceGT, Nat.reduceAdd, Int.reduceEq, Int.reduceLT, Int.reduceLE, Int.reduceNeg, Int.reduceAdd, Int.reduceSub, Int.reduceMul, Int.reduceDiv, Int.reduceMod, Nat.reduceLT, Nat.reduceLeDiff, Nat.reduceMul, Nat.reduceSub, Int.reduceToNat, go_sem, ↓ix_enc, encI_len, encI_take, Nat.le_refl, Try.results42]
          refine ⟨⟨(i + d.2, k, x :: (q ++ [(d.1 : Int)])), by simp only; omega, by simp only [List.length_cons, List.length_append, List.length_nil]; omega, by simpa using h3⟩, by simp only; omega, ?_⟩
          simp only [rptsS, rowI, tokI]
          refine ⟨?_, ?_, ?_, ?_, ?_, ?_, ?_⟩ <;> simp only [mem_cons_, mem_nil_, lkp, hold_eq, b_some, frz_self, frz1_self, frzL_self, frzO_self, frzO_box, frzO_iter, frzL_cons, frzL_nil, frz_agg, frz1_row, frz1_nil, frz1_val, frz1_sl, frz1_rr, frz1_ptr, frz1_ms, frz_val, frz_sl, frz_row, frz_ptr, frz_ms, frz_fp, frz_tup, frz_fn, PV.lt, PV.ltL, PObj.lt, decide_true, Bool.and_true, Bool.and_self, Nat.reduceLT, Nat.reduceLeDiff, Nat.reduceEqDiff, if_true, if_false, ↓reduceIte, and_true, true_and, Nat.zero_le, reduceCtorEq, eq_self, decide_eq_true_eq, Int.natCast_add, encI_snoc, List.cons_append, List.length_cons, List.length_append, List.length_singleton] <;> try first | omega | ((repeat' (first | exact And.intro rfl (by omega) | (refine And.intro ?_ ?_))) <;> first | rfl | omega | (congr 3; omega) | (congr 2; omega))
    · rw [scan_end (by omega)] at h3
      simp only [List.append_nil] at h3
      cases xs with
      | nil =>
        simp only [rowI]
        simp (implicitDefEqProofs := false) (disch := omega) only [go_sem, reduceCtorEq, Nat.reduceEqDiff, Nat.reduceBEq, ↓reduceIte, Nat.reduceGT, Nat.reduceAdd, Int.reduceEq, Int.reduceLT, Int.reduceLE, Int.reduceNeg, Int.reduceAdd, Int.reduceSub, Int.reduceMul, Int.reduceDiv, Int.reduceMod, Nat.reduceLT, Nat.reduceLeDiff, Nat.reduceMul, Nat.reduceSub, Int.reduceToNat, go_sem, ↓ix_enc, encI_len, encI_take, Nat.le_refl, Try.results42]
        rw [h3]; rfl
      | cons x q =>
        simp only [rowI]
        simp (implicitDefEqProofs := false) (disch := omega) only [go_sem, reduceCtorEq, Nat.reduceEqDiff, Nat.reduceBEq, ↓reduceIte, Nat.reduceGT, Nat.reduceAdd, Int.reduceEq, Int.reduceLT, Int.reduceLE, Int.reduceNeg, Int.reduceAdd, Int.reduceSub, Int.reduceMul, Int.reduceDiv, Int.reduceMod, Nat.reduceLT, Nat.reduceLeDiff, Nat.reduceMul, Nat.reduceSub, Int.reduceToNat, go_sem, ↓ix_enc, encI_len, encI_take, Nat.le_refl, Try.results42]
        rw [h3]
theorem rvalid_ok (s : ByteArray) (hs : s.size ≤ 1000000) : Ok Try.prog 14 [vS s] (vB (decide ((scan s 0).2 = s.size))) := by
  have e : decide (((scan s 0).2 : Int) = (s.size : Int)) = decide ((scan s 0).2 = s.size) := decide_eq_decide.2 (by omega)
  rw [← e]
  refine Ok.of_pwp (by kernel_rfl) Try.func14 rfl (by kernel_rfl) (by kernel_rfl) ?_
  simp (implicitDefEqProofs := false) (disch := omega) only [go_sem, reduceCtorEq, Nat.reduceEqDiff, Nat.reduceBEq, ↓reduceIte, Nat.reduceGT, Nat.reduceAdd, Int.reduceEq, Int.reduceLT, Int.reduceLE, Int.reduceNeg, Int.reduceAdd, Int.reduceSub, Int.reduceMul, Int.reduceDiv, Int.reduceMod, Nat.reduceLT, Nat.reduceLeDiff, Nat.reduceMul, Nat.reduceSub, Int.reduceToNat, go_sem, ↓ix_enc, encI_len, encI_take, Nat.le_refl, Try.results14]
  with_reducible refine CallOk.of (rpoints_ok s hs) rfl ?_
  simp (implicitDefEqProofs := false) (disch := omega) only [go_sem, reduceCtorEq, Nat.reduceEqDiff, Nat.reduceBEq, ↓reduceIte, Nat.reduceGT, Nat.reduceAdd, Int.reduceEq, Int.reduceLT, Int.reduceLE, Int.reduceNeg, Int.reduceAdd, Int.reduceSub, Int.reduceMul, Int.reduceDiv, Int.reduceMod, Nat.reduceLT, Nat.reduceLeDiff, Nat.reduceMul, Nat.reduceSub, Int.reduceToNat, go_sem, ↓ix_enc, encI_len, encI_take, Nat.le_refl, Try.results14]

end Go.Proofs.Ytefhongghmimgaa
