/-
  Chapter 25: the law Words.
-/
import Derived.Test.YtegehnojbfedlaaDoorRC
open Go Go.Proofs Go.Pw Go.RowKit
namespace Go.Proofs.YtegehnojbfedlaaDoor
set_option maxRecDepth 4000
set_option linter.unusedVariables false
set_option linter.unusedSimpArgs false
/-- The words, rising. -/
def wl : List (List UInt8) := [[97, 108, 108], [99, 104, 101, 99, 107], [99, 111, 112, 121], [100, 114, 97, 119, 115], [100, 114, 111, 112], [101, 110, 117, 109], [102, 97, 105, 108, 115], [103, 101, 110, 101, 114, 97, 116, 101], [103, 101, 116], [105, 109, 112, 111, 114, 116], [108, 105, 110, 101, 115], [108, 105, 115, 116], [108, 111, 97, 100], [109, 117, 116, 97, 116, 101], [111, 114, 97, 99, 108, 101], [114, 101, 102, 108, 101, 99, 116], [114, 101, 110, 100, 101, 114], [114, 101, 112, 108, 97, 121], [115, 99, 114, 105, 112, 116], [115, 104, 111, 119], [115, 104, 114, 105, 110, 107]]
theorem wl_len : wl.length = 21 := rfl
theorem words_ok : Ok Tryd.prog 19 [] (.sl (encB wl)) := by
  refine Ok.of_pwp (by kernel_rfl) Tryd.func19 rfl (by kernel_rfl) (by kernel_rfl) ?_
  simp (implicitDefEqProofs := false) (disch := omega) only [go_sem, reduceCtorEq, Nat.reduceEqDiff, Nat.reduceBEq, ↓reduceIte, Nat.reduceGT, Nat.reduceAdd, Int.reduceEq, Int.reduceLT, Int.reduceLE, Int.reduceNeg, Int.reduceAdd, Int.reduceSub, Int.reduceMul, Int.reduceDiv, Int.reduceMod, Nat.reduceLT, Nat.reduceLeDiff, Nat.reduceMul, Nat.reduceSub, Int.reduceToNat, go_sem, Nat.le_refl, Int.toNat_natCast, Int.toNat_zero, Int.toNat_one, str_eq, sz_bA, tl_bA, encI_len, ↓ix_enc, decide_true, beq_self_eq_true, Bool.not_true, Bool.not_false, Tryd.results19]
  rfl
theorem rwords_ok : Ok Tryd.prog 20 [] (.sl (encB wl)) := by
  refine Ok.of_pwp (by kernel_rfl) Tryd.func20 rfl (by kernel_rfl) (by kernel_rfl) ?_
  simp (implicitDefEqProofs := false) (disch := omega) only [go_sem, reduceCtorEq, Nat.reduceEqDiff, Nat.reduceBEq, ↓reduceIte, Nat.reduceGT, Nat.reduceAdd, Int.reduceEq, Int.reduceLT, Int.reduceLE, Int.reduceNeg, Int.reduceAdd, Int.reduceSub, Int.reduceMul, Int.reduceDiv, Int.reduceMod, Nat.reduceLT, Nat.reduceLeDiff, Nat.reduceMul, Nat.reduceSub, Int.reduceToNat, go_sem, Nat.le_refl, Int.toNat_natCast, Int.toNat_zero, Int.toNat_one, str_eq, sz_bA, tl_bA, encI_len, ↓ix_enc, decide_true, beq_self_eq_true, Bool.not_true, Bool.not_false, Tryd.results20]
  rfl
theorem names_nil {S : List UInt8} {k : Nat} : pNames S (k + 1) [] = .error (S.length, 1) := rfl
theorem nums_nil {S : List UInt8} {k : Nat} : pNums S (k + 1) [] = .error (S.length, 1) := by
  have h : pC (bA (wrd [])) = 1 := pC_1 (by decide)
  rw [pNums, if_neg (by rw [h]; decide), h]
  rfl
/-- A word alone. -/
theorem parse_word {w : List UInt8} {a b : Nat} {r : Bool} (ha : asks w = some (a, b, r)) (hl : w.length ≤ 20000) :
    parseC w = if 0 < a + b then .error (w.length, 1) else .ok ⟨w, [], [], []⟩ := by
  have hw := word_nb ha
  have hs := seg_wrd (g := []) (p := w) (t := []) (fun b hb => by cases hb) hw (.inl rfl)
  rw [List.nil_append, List.append_nil] at hs
  unfold parseC
  rw [if_neg (by omega), hs.1, hs.2, if_neg hw.1, ha]
  simp only
  unfold pAll
  cases a with
  | succ a => rw [names_nil, if_pos (by omega)]
  | zero =>
    simp only [pNames]
    cases b with
    | succ b => rw [nums_nil, if_pos (by omega)]
    | zero =>
      simp only [pNums]
      unfold pRest
      rw [if_neg (fun h => h.2 rfl), if_neg (by omega)]
      rfl
theorem wl_asks : ∀ w ∈ wl, ∃ a b r, asks w = some (a, b, r) ∧ w.length ≤ 20 := by
  have : ∀ w ∈ wl, (asks w).isSome = true ∧ w.length ≤ 20 := by decide
  intro w hw
  obtain ⟨h, k⟩ := this w hw
  obtain ⟨⟨a, b, r⟩, hq⟩ := Option.isSome_iff_exists.1 h
  exact ⟨a, b, r, hq, k⟩
set_option maxHeartbeats 4000000 in
theorem words_law (n : Int) (h : 0 ≤ n ∧ n ≤ 255) : Ok Tryd.prog 6 [.val (.int .u8 n)] (vB true) := by
  have c0 := awake_ok
  have c1 := words_ok
  have c2 := rwords_ok
  obtain ⟨k, hk, hk2⟩ : ∃ k : Nat, n.tmod 21 = (k : Int) ∧ k < 21 := ⟨(n.tmod 21).toNat, by rw [Int.tmod_eq_emod_of_nonneg h.1]; omega, by rw [Int.tmod_eq_emod_of_nonneg h.1]; omega⟩
  have hmem : wl.getD k [] ∈ wl := by
    rw [List.getD_eq_getElem?_getD, List.getElem?_eq_getElem (by rw [wl_len]; exact hk2)]
    exact List.getElem_mem _
  obtain ⟨a, b, r, ha, hwl⟩ := wl_asks _ hmem
  have hlen := wl_len
  have hle := asks_le ha
  refine Ok.of_pwp (by kernel_rfl) Tryd.func6 rfl (by kernel_rfl) (by kernel_rfl) ?_
  simp (implicitDefEqProofs := false) (disch := omega) only [go_sem, reduceCtorEq, Nat.reduceEqDiff, Nat.reduceBEq, ↓reduceIte, Nat.reduceGT, Nat.reduceAdd, Int.reduceEq, Int.reduceLT, Int.reduceLE, Int.reduceNeg, Int.reduceAdd, Int.reduceSub, Int.reduceMul, Int.reduceDiv, Int.reduceMod, Nat.reduceLT, Nat.reduceLeDiff, Nat.reduceMul, Nat.reduceSub, Int.reduceToNat, go_sem, Nat.le_refl, Int.toNat_natCast, Int.toNat_zero, Int.toNat_one, str_eq, sz_bA, tl_bA, encI_len, ↓ix_enc, decide_true, beq_self_eq_true, Bool.not_true, Bool.not_false, Tryd.results6, wl_len, Int.cast_ofNat_Int]
  with_reducible refine CallOk.of c0 rfl ?_
  simp (implicitDefEqProofs := false) (disch := omega) only [go_sem, reduceCtorEq, Nat.reduceEqDiff, Nat.reduceBEq, ↓reduceIte, Nat.reduceGT, Nat.reduceAdd, Int.reduceEq, Int.reduceLT, Int.reduceLE, Int.reduceNeg, Int.reduceAdd, Int.reduceSub, Int.reduceMul, Int.reduceDiv, Int.reduceMod, Nat.reduceLT, Nat.reduceLeDiff, Nat.reduceMul, Nat.reduceSub, Int.reduceToNat, go_sem, Nat.le_refl, Int.toNat_natCast, Int.toNat_zero, Int.toNat_one, str_eq, sz_bA, tl_bA, encI_len, ↓ix_enc, decide_true, beq_self_eq_true, Bool.not_true, Bool.not_false, Tryd.results6, wl_len, Int.cast_ofNat_Int]
  with_reducible refine CallOk.of c1 rfl ?_
  simp (implicitDefEqProofs := false) (disch := omega) only [go_sem, reduceCtorEq, Nat.reduceEqDiff, Nat.reduceBEq, ↓reduceIte, Nat.reduceGT, Nat.reduceAdd, Int.reduceEq, Int.reduceLT, Int.reduceLE, Int.reduceNeg, Int.reduceAdd, Int.reduceSub, Int.reduceMul, Int.reduceDiv, Int.reduceMod, Nat.reduceLT, Nat.reduceLeDiff, Nat.reduceMul, Nat.reduceSub, Int.reduceToNat, go_sem, Nat.le_refl, Int.toNat_natCast, Int.toNat_zero, Int.toNat_one, str_eq, sz_bA, tl_bA, encI_len, ↓ix_enc, decide_true, beq_self_eq_true, Bool.not_true, Bool.not_false, Tryd.results6, wl_len, Int.cast_ofNat_Int]
  with_reducible refine CallOk.of c2 rfl ?_
  simp (implicitDefEqProofs := false) (disch := omega) only [go_sem, reduceCtorEq, Nat.reduceEqDiff, Nat.reduceBEq, ↓reduceIte, Nat.reduceGT, Nat.reduceAdd, Int.reduceEq, Int.reduceLT, Int.reduceLE, Int.reduceNeg, Int.reduceAdd, Int.reduceSub, Int.reduceMul, Int.reduceDiv, Int.reduceMod, Nat.reduceLT, Nat.reduceLeDiff, Nat.reduceMul, Nat.reduceSub, Int.reduceToNat, go_sem, Nat.le_refl, Int.toNat_natCast, Int.toNat_zero, Int.toNat_one, str_eq, sz_bA, tl_bA, encI_len, ↓ix_enc, decide_true, beq_self_eq_true, Bool.not_true, Bool.not_false, Tryd.results6, wl_len, Int.cast_ofNat_Int]
  refine p_loop (ι := { i : Nat // i ≤ 21 }) (fun p => ⟨[(24, vI p.1), (23, vI 21), (4, .sl (encB wl)), (3, .sl (encB wl)), (0, .val (.int .u8 n))], [], [], 0, 0⟩) (fun p => 21 - p.1) ⟨0, Nat.zero_le _⟩ ?_ ?_
  · refine ⟨?_, ?_, ?_, ?_, ?_, ?_, ?_⟩ <;> simp only [mem_cons_, mem_nil_, lkp, hold_eq, b_some, frz_self, frz1_self, frzL_self, frzO_self, frzO_box, frzO_iter, frzL_cons, frzL_nil, frz_agg, frz1_row, frz1_nil, frz1_val, frz1_sl, frz1_rr, frz1_ptr, frz1_ms, frz_val, frz_sl, frz_row, frz_ptr, frz_ms, frz_fp, frz_tup, frz_fn, PV.lt, PV.ltL, PObj.lt, decide_true, Bool.true_and, Bool.and_true, Bool.and_self, Nat.reduceLT, Nat.reduceLeDiff, Nat.reduceEqDiff, if_true, if_false, ↓reduceIte, and_true, true_and, Nat.zero_le, reduceCtorEq, eq_self, decide_eq_true_eq, Int.natCast_zero] <;> try first | omega | ((repeat' (first | exact And.intro rfl (by omega) | (refine And.intro ?_ ?_))) <;> first | rfl | omega | (congr 3; omega) | (congr 2; omega))
  · rintro ⟨i, hi⟩
    simp only
    by_cases hl : i < 21
    · have hlb : (i : Int) < (wl.length : Int) := by rw [wl_len]; omega
      simp (implicitDefEqProofs := false) (disch := omega) only [go_sem, reduceCtorEq, Nat.reduceEqDiff, Nat.reduceBEq, ↓reduceIte, Nat.reduceGT, Nat.reduceAdd, Int.reduceEq, Int.reduceLT, Int.reduceLE, Int.reduceNeg, Int.reduceAdd, Int.reduceSub, Int.reduceMul, Int.reduceDiv, Int.reduceMod, Nat.reduceLT, Nat.reduceLeDiff, Nat.reduceMul, Nat.reduceSub, Int.reduceToNat, go_sem, Nat.le_refl, Int.toNat_natCast, Int.toNat_zero, Int.toNat_one, str_eq, sz_bA, tl_bA, encI_len, ↓ix_enc, decide_true, beq_self_eq_true, Bool.not_true, Bool.not_false, Tryd.results6, wl_len, Int.cast_ofNat_Int]
      refine ⟨⟨i + 1, hl⟩, by simp only; omega, ?_⟩
      refine ⟨?_, ?_, ?_, ?_, ?_, ?_, ?_⟩ <;> simp only [mem_cons_, mem_nil_, lkp, hold_eq, b_some, frz_self, frz1_self, frzL_self, frzO_self, frzO_box, frzO_iter, frzL_cons, frzL_nil, frz_agg, frz1_row, frz1_nil, frz1_val, frz1_sl, frz1_rr, frz1_ptr, frz1_ms, frz_val, frz_sl, frz_row, frz_ptr, frz_ms, frz_fp, frz_tup, frz_fn, PV.lt, PV.ltL, PObj.lt, decide_true, Bool.true_and, Bool.and_true, Bool.and_self, Nat.reduceLT, Nat.reduceLeDiff, Nat.reduceEqDiff, if_true, if_false, ↓reduceIte, and_true, true_and, Nat.zero_le, reduceCtorEq, eq_self, decide_eq_true_eq, Int.natCast_add, Int.natCast_one] <;> try first | omega | ((repeat' (first | exact And.intro rfl (by omega) | (refine And.intro ?_ ?_))) <;> first | rfl | omega | (congr 3; omega) | (congr 2; omega))
    · have c3 := asks_ok (wl.getD k [])
      have c4 := parse_cmd (wl.getD k []) (by omega)
      have hkb : (k : Int) < (wl.length : Int) := by rw [wl_len]; omega
      rw [ha] at c3
      unfold askP at c3
      rw [parse_word ha (by omega)] at c4
      simp only at c3
      by_cases hab : 0 < a + b
      · rw [if_pos hab] at c4
        unfold resP at c4
        simp only at c4
        simp (implicitDefEqProofs := false) (disch := omega) only [go_sem, reduceCtorEq, Nat.reduceEqDiff, Nat.reduceBEq, ↓reduceIte, Nat.reduceGT, Nat.reduceAdd, Int.reduceEq, Int.reduceLT, Int.reduceLE, Int.reduceNeg, Int.reduceAdd, Int.reduceSub, Int.reduceMul, Int.reduceDiv, Int.reduceMod, Nat.reduceLT, Nat.reduceLeDiff, Nat.reduceMul, Nat.reduceSub, Int.reduceToNat, go_sem, Nat.le_refl, Int.toNat_natCast, Int.toNat_zero, Int.toNat_one, str_eq, sz_bA, tl_bA, encI_len, ↓ix_enc, decide_true, beq_self_eq_true, Bool.not_true, Bool.not_false, Tryd.results6, wl_len, Int.cast_ofNat_Int, hk]
        with_reducible refine CallOk.of c3 rfl ?_
        simp (implicitDefEqProofs := false) (disch := omega) only [go_sem, reduceCtorEq, Nat.reduceEqDiff, Nat.reduceBEq, ↓reduceIte, Nat.reduceGT, Nat.reduceAdd, Int.reduceEq, Int.reduceLT, Int.reduceLE, Int.reduceNeg, Int.reduceAdd, Int.reduceSub, Int.reduceMul, Int.reduceDiv, Int.reduceMod, Nat.reduceLT, Nat.reduceLeDiff, Nat.reduceMul, Nat.reduceSub, Int.reduceToNat, go_sem, Nat.le_refl, Int.toNat_natCast, Int.toNat_zero, Int.toNat_one, str_eq, sz_bA, tl_bA, encI_len, ↓ix_enc, decide_true, beq_self_eq_true, Bool.not_true, Bool.not_false, Tryd.results6, wl_len, Int.cast_ofNat_Int, hk]
        with_reducible refine CallOk.of c4 rfl ?_
        simp (implicitDefEqProofs := false) (disch := omega) only [go_sem, reduceCtorEq, Nat.reduceEqDiff, Nat.reduceBEq, ↓reduceIte, Nat.reduceGT, Nat.reduceAdd, Int.reduceEq, Int.reduceLT, Int.reduceLE, Int.reduceNeg, Int.reduceAdd, Int.reduceSub, Int.reduceMul, Int.reduceDiv, Int.reduceMod, Nat.reduceLT, Nat.reduceLeDiff, Nat.reduceMul, Nat.reduceSub, Int.reduceToNat, go_sem, Nat.le_refl, Int.toNat_natCast, Int.toNat_zero, Int.toNat_one, str_eq, sz_bA, tl_bA, encI_len, ↓ix_enc, decide_true, beq_self_eq_true, Bool.not_true, Bool.not_false, Tryd.results6, wl_len, Int.cast_ofNat_Int, hk]
        first | done | (trace_state; sorry)
      · rw [if_neg hab] at c4
        unfold resP cmP at c4
        simp only at c4
        simp (implicitDefEqProofs := false) (disch := omega) only [go_sem, reduceCtorEq, Nat.reduceEqDiff, Nat.reduceBEq, ↓reduceIte, Nat.reduceGT, Nat.reduceAdd, Int.reduceEq, Int.reduceLT, Int.reduceLE, Int.reduceNeg, Int.reduceAdd, Int.reduceSub, Int.reduceMul, Int.reduceDiv, Int.reduceMod, Nat.reduceLT, Nat.reduceLeDiff, Nat.reduceMul, Nat.reduceSub, Int.reduceToNat, go_sem, Nat.le_refl, Int.toNat_natCast, Int.toNat_zero, Int.toNat_one, str_eq, sz_bA, tl_bA, encI_len, ↓ix_enc, decide_true, beq_self_eq_true, Bool.not_true, Bool.not_false, Tryd.results6, wl_len, Int.cast_ofNat_Int, hk]
        with_reducible refine CallOk.of c3 rfl ?_
        simp (implicitDefEqProofs := false) (disch := omega) only [go_sem, reduceCtorEq, Nat.reduceEqDiff, Nat.reduceBEq, ↓reduceIte, Nat.reduceGT, Nat.reduceAdd, Int.reduceEq, Int.reduceLT, Int.reduceLE, Int.reduceNeg, Int.reduceAdd, Int.reduceSub, Int.reduceMul, Int.reduceDiv, Int.reduceMod, Nat.reduceLT, Nat.reduceLeDiff, Nat.reduceMul, Nat.reduceSub, Int.reduceToNat, go_sem, Nat.le_refl, Int.toNat_natCast, Int.toNat_zero, Int.toNat_one, str_eq, sz_bA, tl_bA, encI_len, ↓ix_enc, decide_true, beq_self_eq_true, Bool.not_true, Bool.not_false, Tryd.results6, wl_len, Int.cast_ofNat_Int, hk]
        with_reducible refine CallOk.of c4 rfl ?_
        simp (implicitDefEqProofs := false) (disch := omega) only [go_sem, reduceCtorEq, Nat.reduceEqDiff, Nat.reduceBEq, ↓reduceIte, Nat.reduceGT, Nat.reduceAdd, Int.reduceEq, Int.reduceLT, Int.reduceLE, Int.reduceNeg, Int.reduceAdd, Int.reduceSub, Int.reduceMul, Int.reduceDiv, Int.reduceMod, Nat.reduceLT, Nat.reduceLeDiff, Nat.reduceMul, Nat.reduceSub, Int.reduceToNat, go_sem, Nat.le_refl, Int.toNat_natCast, Int.toNat_zero, Int.toNat_one, str_eq, sz_bA, tl_bA, encI_len, ↓ix_enc, decide_true, beq_self_eq_true, Bool.not_true, Bool.not_false, Tryd.results6, wl_len, Int.cast_ofNat_Int, hk]
        first | done | (trace_state; sorry)
end Go.Proofs.YtegehnojbfedlaaDoor
