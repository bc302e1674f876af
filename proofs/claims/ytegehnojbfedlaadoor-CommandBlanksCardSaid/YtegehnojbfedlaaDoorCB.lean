/-
  Chapter 25: a command's line: the program's and the document's.
-/
import Derived.Test.YtegehnojbfedlaaDoorCA
import Derived.Lib.Join
open Go Go.Proofs Go.Pw Go.RowKit
namespace Go.Proofs.YtegehnojbfedlaaDoor
set_option maxRecDepth 4000
set_option linter.unusedVariables false
set_option linter.unusedSimpArgs false
def tOf (n : Int) : List UInt8 := (sOf n).data.toList
theorem tOf_len (n : Int) (h : fits n) : (tOf n).length ≤ 21 := sOf_size n h
theorem textB_ok (n : Int) (h : fits n) : Ok Tryd.prog 38 [vI n] (vS (bA (tOf n))) := text_ok n h
theorem rtextB_ok (n : Int) (h : fits n) : Ok Tryd.prog 17 [repN n] (vS (bA (tOf n))) := rtext_ok n h
/-- The rest, as a piece. -/
def restC (c : Cm) : List (List UInt8) := match asks c.word with
  | some (_, _, true) => [c.rest]
  | _ => []
abbrev jT (l : List (List UInt8)) : List UInt8 := Lib.joinTail [32] l
/-- A command's line. -/
def lineC (c : Cm) : List UInt8 := c.word ++ jT (c.names ++ c.nums.map tOf ++ restC c)
theorem jT_nil : jT [] = [] := rfl
theorem jT_cons (x : List UInt8) (r : List (List UInt8)) : jT (x :: r) = 32 :: x ++ jT r := rfl
theorem jT_app (a b : List (List UInt8)) : jT (a ++ b) = jT a ++ jT b := by
  unfold jT Lib.joinTail
  rw [List.map_append, List.flatten_append]
theorem join_tail (x : List UInt8) : ∀ (r : List (List UInt8)), Lib.join (x :: r) [32] = x ++ jT r
  | [] => by simp [Lib.join, jT_nil]
  | y :: r => by
    have ih := join_tail y r
    unfold Lib.join at ih ⊢
    rw [List.intercalate_cons_cons, ih, jT_cons]
    simp
theorem ap_bA (a b : List UInt8) : bA a ++ bA b = bA (a ++ b) := by
  apply ByteArray.ext
  apply Array.toList_inj.1
  rw [ByteArray.data_append, Array.toList_append]
  rfl
theorem ap_sp (a : List UInt8) : bA a ++ ⟨#[32]⟩ = bA (a ++ [32]) := ap_bA a [32]
theorem drop_B {α : Type} {l : List α} {i : Nat} {d : α} (h : i < l.length) : l.drop i = l.getD i d :: l.drop (i + 1) := by
  rw [List.drop_eq_getElem_cons h, List.getD_eq_getElem?_getD, List.getElem?_eq_getElem h]; rfl
theorem getD_fits {l : List Int} (h : ∀ n ∈ l, fits n) (i : Nat) : fits (l.getD i 0) := by
  by_cases hi : i < l.length
  · rw [List.getD_eq_getElem?_getD, List.getElem?_eq_getElem hi]; exact h _ (List.getElem_mem hi)
  · rw [List.getD_eq_getElem?_getD, List.getElem?_eq_none (by omega)]; decide
theorem s1_len : (⟨#[32]⟩ : ByteArray).size = 1 := rfl
set_option maxHeartbeats 4000000 in
theorem rline_ok (c : Cm) (h1 : c.names.length ≤ 1000) (h2 : c.nums.length ≤ 1000) (hn : ∀ n ∈ c.nums, fits n) (hL : (lineC c).length ≤ 100000) : Ok Tryd.prog 12 [cmP c] (vS (bA (lineC c))) := by
  obtain ⟨w, ns, ms, rt⟩ := c
  simp only at h1 h2 hn
  obtain ⟨X, hX⟩ : ∃ X, X = lineC ⟨w, ns, ms, rt⟩ := ⟨_, rfl⟩
  rw [← hX] at hL ⊢
  obtain ⟨rs, hrs⟩ : ∃ rs, rs = restC ⟨w, ns, ms, rt⟩ := ⟨_, rfl⟩
  have hX0 : w ++ jT (ns ++ ms.map tOf ++ rs) = X := by rw [hX, hrs]; rfl
  have c1 := asks_ok w
  unfold cmP
  simp only
  refine Ok.of_pwp (by kernel_rfl) Tryd.func12 rfl (by kernel_rfl) (by kernel_rfl) ?_
  simp (implicitDefEqProofs := false) (disch := omega) only [go_sem, reduceCtorEq, Nat.reduceEqDiff, Nat.reduceBEq, ↓reduceIte, Nat.reduceGT, Nat.reduceAdd, Int.reduceEq, Int.reduceLT, Int.reduceLE, Int.reduceNeg, Int.reduceAdd, Int.reduceSub, Int.reduceMul, Int.reduceDiv, Int.reduceMod, Nat.reduceLT, Nat.reduceLeDiff, Nat.reduceMul, Nat.reduceSub, Int.reduceToNat, go_sem, Nat.le_refl, Int.toNat_natCast, Int.toNat_zero, Int.toNat_one, str_eq, sz_bA, tl_bA, encI_len, ↓ix_enc, decide_true, Tryd.results12, ap_bA, ap_sp, List.length_append, List.size_toArray, List.length_cons, List.length_nil, Nat.zero_add, Int.cast_ofNat_Int]
  refine p_loop (ι := { p : Nat × List UInt8 // p.1 ≤ ns.length ∧ p.2 ++ jT (ns.drop p.1 ++ ms.map tOf ++ rs) = X })
    (fun p => ⟨[(14, vI p.1.1), (13, vI ns.length), (3, vS (bA p.1.2)), (1, .ptr 0 0)], [(0, .box 25 [vS (bA w), .sl (encB ns), .sl (encI ms), vS (bA rt)])], [], 1, 0⟩) (fun p => ns.length - p.1.1) ⟨(0, w), Nat.zero_le _, hX0⟩ ?_ ?_
  · refine ⟨?_, ?_, ?_, ?_, ?_, ?_, ?_⟩ <;> simp only [mem_cons_, mem_nil_, lkp, hold_eq, b_some, frz_self, frz1_self, frzL_self, frzO_self, frzO_box, frzO_iter, frzL_cons, frzL_nil, frz_agg, frz1_row, frz1_nil, frz1_val, frz1_sl, frz1_rr, frz1_ptr, frz1_ms, frz_val, frz_sl, frz_row, frz_ptr, frz_ms, frz_fp, frz_tup, frz_fn, PV.lt, PV.ltL, PObj.lt, decide_true, Bool.true_and, Bool.and_true, Bool.and_self, Nat.reduceLT, Nat.reduceLeDiff, Nat.reduceEqDiff, if_true, if_false, ↓reduceIte, and_true, true_and, Nat.zero_le, reduceCtorEq, eq_self, decide_eq_true_eq, Int.natCast_zero] <;> try first | omega | ((repeat' (first | exact And.intro rfl (by omega) | (refine And.intro ?_ ?_))) <;> first | rfl | omega | (congr 3; omega) | (congr 2; omega))
  · rintro ⟨⟨i, a⟩, k1, k2⟩
    simp only at k1 k2 ⊢
    have hal := congrArg List.length k2
    simp only [List.length_append] at hal
    by_cases hi : i < ns.length
    · rw [drop_B (d := []) hi, List.cons_append, List.cons_append, jT_cons] at k2
      have hal2 := congrArg List.length k2
      simp only [List.length_append, List.length_cons] at hal2
      simp (implicitDefEqProofs := false) (disch := omega) only [go_sem, reduceCtorEq, Nat.reduceEqDiff, Nat.reduceBEq, ↓reduceIte, Nat.reduceGT, Nat.reduceAdd, Int.reduceEq, Int.reduceLT, Int.reduceLE, Int.reduceNeg, Int.reduceAdd, Int.reduceSub, Int.reduceMul, Int.reduceDiv, Int.reduceMod, Nat.reduceLT, Nat.reduceLeDiff, Nat.reduceMul, Nat.reduceSub, Int.reduceToNat, go_sem, Nat.le_refl, Int.toNat_natCast, Int.toNat_zero, Int.toNat_one, str_eq, sz_bA, tl_bA, encI_len, ↓ix_enc, decide_true, Tryd.results12, ap_bA, ap_sp, List.length_append, List.size_toArray, List.length_cons, List.length_nil, Nat.zero_add, Int.cast_ofNat_Int]
      refine ⟨⟨(i + 1, a ++ [32] ++ ns.getD i []), hi, by rw [← k2]; simp⟩, by simp only; omega, ?_⟩
      refine ⟨?_, ?_, ?_, ?_, ?_, ?_, ?_⟩ <;> simp only [mem_cons_, mem_nil_, lkp, hold_eq, b_some, frz_self, frz1_self, frzL_self, frzO_self, frzO_box, frzO_iter, frzL_cons, frzL_nil, frz_agg, frz1_row, frz1_nil, frz1_val, frz1_sl, frz1_rr, frz1_ptr, frz1_ms, frz_val, frz_sl, frz_row, frz_ptr, frz_ms, frz_fp, frz_tup, frz_fn, PV.lt, PV.ltL, PObj.lt, decide_true, Bool.true_and, Bool.and_true, Bool.and_self, Nat.reduceLT, Nat.reduceLeDiff, Nat.reduceEqDiff, if_true, if_false, ↓reduceIte, and_true, true_and, Nat.zero_le, reduceCtorEq, eq_self, decide_eq_true_eq, Int.natCast_add, Int.natCast_one] <;> try first | omega | ((repeat' (first | exact And.intro rfl (by omega) | (refine And.intro ?_ ?_))) <;> first | rfl | omega | (congr 3; omega) | (congr 2; omega))
    · have hi' : i = ns.length := by omega
      subst hi'
      rw [List.drop_length, List.nil_append] at k2
      simp (implicitDefEqProofs := false) (disch := omega) only [go_sem, reduceCtorEq, Nat.reduceEqDiff, Nat.reduceBEq, ↓reduceIte, Nat.reduceGT, Nat.reduceAdd, Int.reduceEq, Int.reduceLT, Int.reduceLE, Int.reduceNeg, Int.reduceAdd, Int.reduceSub, Int.reduceMul, Int.reduceDiv, Int.reduceMod, Nat.reduceLT, Nat.reduceLeDiff, Nat.reduceMul, Nat.reduceSub, Int.reduceToNat, go_sem, Nat.le_refl, Int.toNat_natCast, Int.toNat_zero, Int.toNat_one, str_eq, sz_bA, tl_bA, encI_len, ↓ix_enc, decide_true, Tryd.results12, ap_bA, ap_sp, List.length_append, List.size_toArray, List.length_cons, List.length_nil, Nat.zero_add, Int.cast_ofNat_Int]
      refine p_loop (ι := { p : Nat × List UInt8 // p.1 ≤ ms.length ∧ p.2 ++ jT ((ms.drop p.1).map tOf ++ rs) = X })
        (fun p => ⟨[(29, vI p.1.1), (28, vI ms.length), (3, vS (bA p.1.2)), (1, .ptr 0 0)], [(0, .box 25 [vS (bA w), .sl (encB ns), .sl (encI ms), vS (bA rt)])], [], 1, 0⟩) (fun p => ms.length - p.1.1) ⟨(0, a), Nat.zero_le _, k2⟩ ?_ ?_
      · refine ⟨?_, ?_, ?_, ?_, ?_, ?_, ?_⟩ <;> simp only [mem_cons_, mem_nil_, lkp, hold_eq, b_some, frz_self, frz1_self, frzL_self, frzO_self, frzO_box, frzO_iter, frzL_cons, frzL_nil, frz_agg, frz1_row, frz1_nil, frz1_val, frz1_sl, frz1_rr, frz1_ptr, frz1_ms, frz_val, frz_sl, frz_row, frz_ptr, frz_ms, frz_fp, frz_tup, frz_fn, PV.lt, PV.ltL, PObj.lt, decide_true, Bool.true_and, Bool.and_true, Bool.and_self, Nat.reduceLT, Nat.reduceLeDiff, Nat.reduceEqDiff, if_true, if_false, ↓reduceIte, and_true, true_and, Nat.zero_le, reduceCtorEq, eq_self, decide_eq_true_eq, Int.natCast_zero] <;> try first | omega | ((repeat' (first | exact And.intro rfl (by omega) | (refine And.intro ?_ ?_))) <;> first | rfl | omega | (congr 3; omega) | (congr 2; omega))
      · rintro ⟨⟨j, b⟩, g1, g2⟩
        simp only at g1 g2 ⊢
        have hbl := congrArg List.length g2
        simp only [List.length_append] at hbl
        by_cases hj : j < ms.length
        · have hf := getD_fits hn j
          have c2 := of_rep (ms.getD j 0) hf
          have c3 := rtextB_ok (ms.getD j 0) hf
          rw [drop_B (d := 0) hj, List.map_cons, List.cons_append, jT_cons] at g2
          have hbl2 := congrArg List.length g2
          simp only [List.length_append, List.length_cons] at hbl2
          simp (implicitDefEqProofs := false) (disch := omega) only [go_sem, reduceCtorEq, Nat.reduceEqDiff, Nat.reduceBEq, ↓reduceIte, Nat.reduceGT, Nat.reduceAdd, Int.reduceEq, Int.reduceLT, Int.reduceLE, Int.reduceNeg, Int.reduceAdd, Int.reduceSub, Int.reduceMul, Int.reduceDiv, Int.reduceMod, Nat.reduceLT, Nat.reduceLeDiff, Nat.reduceMul, Nat.reduceSub, Int.reduceToNat, go_sem, Nat.le_refl, Int.toNat_natCast, Int.toNat_zero, Int.toNat_one, str_eq, sz_bA, tl_bA, encI_len, ↓ix_enc, decide_true, Tryd.results12, ap_bA, ap_sp, List.length_append, List.size_toArray, List.length_cons, List.length_nil, Nat.zero_add, Int.cast_ofNat_Int]
          with_reducible refine CallOk.of c2 rfl ?_
          simp (implicitDefEqProofs := false) (disch := omega) only [go_sem, reduceCtorEq, Nat.reduceEqDiff, Nat.reduceBEq, ↓reduceIte, Nat.reduceGT, Nat.reduceAdd, Int.reduceEq, Int.reduceLT, Int.reduceLE, Int.reduceNeg, Int.reduceAdd, Int.reduceSub, Int.reduceMul, Int.reduceDiv, Int.reduceMod, Nat.reduceLT, Nat.reduceLeDiff, Nat.reduceMul, Nat.reduceSub, Int.reduceToNat, go_sem, Nat.le_refl, Int.toNat_natCast, Int.toNat_zero, Int.toNat_one, str_eq, sz_bA, tl_bA, encI_len, ↓ix_enc, decide_true, Tryd.results12, ap_bA, ap_sp, List.length_append, List.size_toArray, List.length_cons, List.length_nil, Nat.zero_add, Int.cast_ofNat_Int]
          with_reducible refine CallOk.of c3 rfl ?_
          simp (implicitDefEqProofs := false) (disch := omega) only [go_sem, reduceCtorEq, Nat.reduceEqDiff, Nat.reduceBEq, ↓reduceIte, Nat.reduceGT, Nat.reduceAdd, Int.reduceEq, Int.reduceLT, Int.reduceLE, Int.reduceNeg, Int.reduceAdd, Int.reduceSub, Int.reduceMul, Int.reduceDiv, Int.reduceMod, Nat.reduceLT, Nat.reduceLeDiff, Nat.reduceMul, Nat.reduceSub, Int.reduceToNat, go_sem, Nat.le_refl, Int.toNat_natCast, Int.toNat_zero, Int.toNat_one, str_eq, sz_bA, tl_bA, encI_len, ↓ix_enc, decide_true, Tryd.results12, ap_bA, ap_sp, List.length_append, List.size_toArray, List.length_cons, List.length_nil, Nat.zero_add, Int.cast_ofNat_Int]
          refine ⟨⟨(j + 1, b ++ [32] ++ tOf (ms.getD j 0)), hj, by simpa using g2⟩, by simp only; omega, ?_⟩
          refine ⟨?_, ?_, ?_, ?_, ?_, ?_, ?_⟩ <;> simp only [mem_cons_, mem_nil_, lkp, hold_eq, b_some, frz_self, frz1_self, frzL_self, frzO_self, frzO_box, frzO_iter, frzL_cons, frzL_nil, frz_agg, frz1_row, frz1_nil, frz1_val, frz1_sl, frz1_rr, frz1_ptr, frz1_ms, frz_val, frz_sl, frz_row, frz_ptr, frz_ms, frz_fp, frz_tup, frz_fn, PV.lt, PV.ltL, PObj.lt, decide_true, Bool.true_and, Bool.and_true, Bool.and_self, Nat.reduceLT, Nat.reduceLeDiff, Nat.reduceEqDiff, if_true, if_false, ↓reduceIte, and_true, true_and, Nat.zero_le, reduceCtorEq, eq_self, decide_eq_true_eq, Int.natCast_add, Int.natCast_one] <;> try first | omega | ((repeat' (first | exact And.intro rfl (by omega) | (refine And.intro ?_ ?_))) <;> first | rfl | omega | (congr 3; omega) | (congr 2; omega))
        · have hj' : j = ms.length := by omega
          subst hj'
          rw [List.drop_length, List.map_nil, List.nil_append] at g2
          cases ha : asks w with
          | none =>
            rw [ha] at c1
            unfold askP at c1
            simp only at c1
            have hr0 : rs = [] := by rw [hrs]; unfold restC; simp only; rw [ha]
            rw [hr0, jT_nil, List.append_nil] at g2
            simp (implicitDefEqProofs := false) (disch := omega) only [go_sem, reduceCtorEq, Nat.reduceEqDiff, Nat.reduceBEq, ↓reduceIte, Nat.reduceGT, Nat.reduceAdd, Int.reduceEq, Int.reduceLT, Int.reduceLE, Int.reduceNeg, Int.reduceAdd, Int.reduceSub, Int.reduceMul, Int.reduceDiv, Int.reduceMod, Nat.reduceLT, Nat.reduceLeDiff, Nat.reduceMul, Nat.reduceSub, Int.reduceToNat, go_sem, Nat.le_refl, Int.toNat_natCast, Int.toNat_zero, Int.toNat_one, str_eq, sz_bA, tl_bA, encI_len, ↓ix_enc, decide_true, Tryd.results12, ap_bA, ap_sp, List.length_append, List.size_toArray, List.length_cons, List.length_nil, Nat.zero_add, Int.cast_ofNat_Int]
            with_reducible refine CallOk.of c1 rfl ?_
            simp (implicitDefEqProofs := false) (disch := omega) only [go_sem, reduceCtorEq, Nat.reduceEqDiff, Nat.reduceBEq, ↓reduceIte, Nat.reduceGT, Nat.reduceAdd, Int.reduceEq, Int.reduceLT, Int.reduceLE, Int.reduceNeg, Int.reduceAdd, Int.reduceSub, Int.reduceMul, Int.reduceDiv, Int.reduceMod, Nat.reduceLT, Nat.reduceLeDiff, Nat.reduceMul, Nat.reduceSub, Int.reduceToNat, go_sem, Nat.le_refl, Int.toNat_natCast, Int.toNat_zero, Int.toNat_one, str_eq, sz_bA, tl_bA, encI_len, ↓ix_enc, decide_true, Tryd.results12, ap_bA, ap_sp, List.length_append, List.size_toArray, List.length_cons, List.length_nil, Nat.zero_add, Int.cast_ofNat_Int, g2]
          | some q =>
            obtain ⟨x, y, r⟩ := q
            rw [ha] at c1
            unfold askP at c1
            simp only at c1
            cases r with
            | false =>
              have hr0 : rs = [] := by rw [hrs]; unfold restC; simp only; rw [ha]
              rw [hr0, jT_nil, List.append_nil] at g2
              simp (implicitDefEqProofs := false) (disch := omega) only [go_sem, reduceCtorEq, Nat.reduceEqDiff, Nat.reduceBEq, ↓reduceIte, Nat.reduceGT, Nat.reduceAdd, Int.reduceEq, Int.reduceLT, Int.reduceLE, Int.reduceNeg, Int.reduceAdd, Int.reduceSub, Int.reduceMul, Int.reduceDiv, Int.reduceMod, Nat.reduceLT, Nat.reduceLeDiff, Nat.reduceMul, Nat.reduceSub, Int.reduceToNat, go_sem, Nat.le_refl, Int.toNat_natCast, Int.toNat_zero, Int.toNat_one, str_eq, sz_bA, tl_bA, encI_len, ↓ix_enc, decide_true, Tryd.results12, ap_bA, ap_sp, List.length_append, List.size_toArray, List.length_cons, List.length_nil, Nat.zero_add, Int.cast_ofNat_Int]
              with_reducible refine CallOk.of c1 rfl ?_
              simp (implicitDefEqProofs := false) (disch := omega) only [go_sem, reduceCtorEq, Nat.reduceEqDiff, Nat.reduceBEq, ↓reduceIte, Nat.reduceGT, Nat.reduceAdd, Int.reduceEq, Int.reduceLT, Int.reduceLE, Int.reduceNeg, Int.reduceAdd, Int.reduceSub, Int.reduceMul, Int.reduceDiv, Int.reduceMod, Nat.reduceLT, Nat.reduceLeDiff, Nat.reduceMul, Nat.reduceSub, Int.reduceToNat, go_sem, Nat.le_refl, Int.toNat_natCast, Int.toNat_zero, Int.toNat_one, str_eq, sz_bA, tl_bA, encI_len, ↓ix_enc, decide_true, Tryd.results12, ap_bA, ap_sp, List.length_append, List.size_toArray, List.length_cons, List.length_nil, Nat.zero_add, Int.cast_ofNat_Int, g2]
            | true =>
              have hr0 : rs = [rt] := by rw [hrs]; unfold restC; simp only; rw [ha]
              rw [hr0, jT_cons, jT_nil, List.append_nil] at g2
              have hbl2 := congrArg List.length g2
              simp only [List.length_append, List.length_cons] at hbl2
              have g3 : b ++ [32] ++ rt = X := by rw [← g2]; simp
              simp (implicitDefEqProofs := false) (disch := omega) only [go_sem, reduceCtorEq, Nat.reduceEqDiff, Nat.reduceBEq, ↓reduceIte, Nat.reduceGT, Nat.reduceAdd, Int.reduceEq, Int.reduceLT, Int.reduceLE, Int.reduceNeg, Int.reduceAdd, Int.reduceSub, Int.reduceMul, Int.reduceDiv, Int.reduceMod, Nat.reduceLT, Nat.reduceLeDiff, Nat.reduceMul, Nat.reduceSub, Int.reduceToNat, go_sem, Nat.le_refl, Int.toNat_natCast, Int.toNat_zero, Int.toNat_one, str_eq, sz_bA, tl_bA, encI_len, ↓ix_enc, decide_true, Tryd.results12, ap_bA, ap_sp, List.length_append, List.size_toArray, List.length_cons, List.length_nil, Nat.zero_add, Int.cast_ofNat_Int]
              with_reducible refine CallOk.of c1 rfl ?_
              simp (implicitDefEqProofs := false) (disch := omega) only [go_sem, reduceCtorEq, Nat.reduceEqDiff, Nat.reduceBEq, ↓reduceIte, Nat.reduceGT, Nat.reduceAdd, Int.reduceEq, Int.reduceLT, Int.reduceLE, Int.reduceNeg, Int.reduceAdd, Int.reduceSub, Int.reduceMul, Int.reduceDiv, Int.reduceMod, Nat.reduceLT, Nat.reduceLeDiff, Nat.reduceMul, Nat.reduceSub, Int.reduceToNat, go_sem, Nat.le_refl, Int.toNat_natCast, Int.toNat_zero, Int.toNat_one, str_eq, sz_bA, tl_bA, encI_len, ↓ix_enc, decide_true, Tryd.results12, ap_bA, ap_sp, List.length_append, List.size_toArray, List.length_cons, List.length_nil, Nat.zero_add, Int.cast_ofNat_Int, g3]
              try omega
theorem encB_one (x : List UInt8) : [[vS (bA x)]] = encB [x] := rfl
theorem encB_app (a b : List (List UInt8)) : encB a ++ encB b = encB (a ++ b) := by unfold encB; rw [List.map_append]
theorem jT_len : ∀ (l : List (List UInt8)), l.length ≤ (jT l).length
  | [] => Nat.le_refl _
  | x :: r => by have := jT_len r; rw [jT_cons, List.length_append, List.length_cons, List.length_cons]; omega
theorem encB_nil : encB [] = [] := rfl
theorem encB_cons (x : List UInt8) (r : List (List UInt8)) : encB (x :: r) = [vS (bA x)] :: encB r := rfl
set_option maxHeartbeats 4000000 in
theorem line_ok (c : Cm) (h1 : c.names.length ≤ 1000) (h2 : c.nums.length ≤ 1000) (hn : ∀ n ∈ c.nums, fits n) (hL : (lineC c).length ≤ 100000) : Ok Tryd.prog 24 [cmP c] (vS (bA (lineC c))) := by
  obtain ⟨w, ns, ms, rt⟩ := c
  simp only at h1 h2 hn
  obtain ⟨rs, hrs⟩ : ∃ rs, rs = restC ⟨w, ns, ms, rt⟩ := ⟨_, rfl⟩
  have hX : lineC ⟨w, ns, ms, rt⟩ = w ++ jT (ns ++ ms.map tOf ++ rs) := by rw [hrs]; rfl
  rw [hX] at hL ⊢
  have c1 := shaped_ok w
  have c2 := joinB_ok (w :: (ns ++ ms.map tOf ++ rs)) [32] (by simp) (by
    have := jT_len (ns ++ ms.map tOf ++ rs)
    rw [List.length_append] at hL
    rw [List.length_cons]
    omega) (by rw [join_tail]; omega)
  rw [join_tail] at c2
  unfold cmP
  simp only
  refine Ok.of_pwp (by kernel_rfl) Tryd.func24 rfl (by kernel_rfl) (by kernel_rfl) ?_
  cases ns with
  | nil =>
    rw [encB_nil]
    simp (implicitDefEqProofs := false) (disch := omega) only [go_sem, reduceCtorEq, Nat.reduceEqDiff, Nat.reduceBEq, ↓reduceIte, Nat.reduceGT, Nat.reduceAdd, Int.reduceEq, Int.reduceLT, Int.reduceLE, Int.reduceNeg, Int.reduceAdd, Int.reduceSub, Int.reduceMul, Int.reduceDiv, Int.reduceMod, Nat.reduceLT, Nat.reduceLeDiff, Nat.reduceMul, Nat.reduceSub, Int.reduceToNat, go_sem, Nat.le_refl, Int.toNat_natCast, Int.toNat_zero, Int.toNat_one, str_eq, sz_bA, tl_bA, encI_len, ↓ix_enc, decide_true, Tryd.results24, ap_bA, ap_sp, List.length_append, List.size_toArray, List.length_cons, List.length_nil, Nat.zero_add, Int.cast_ofNat_Int, encB_snoc, Delta.val, sliceLike]
    refine p_loop (ι := { p : Nat × List (List UInt8) // p.1 ≤ ms.length ∧ p.2 ++ (ms.drop p.1).map tOf = w :: ([] ++ ms.map tOf) })
      (fun p => ⟨[(17, vI p.1.1), (16, vI ms.length), (15, .sl (encI ms)), (3, .row 4 (encB p.1.2)), (1, .ptr 0 0)], [(0, .box 33 [vS (bA w), .sl (encB []), .sl (encI ms), vS (bA rt)])], [(4, ⟨9, 1, p.1.2.length⟩)], 5, 5⟩) (fun p => ms.length - p.1.1) ⟨(0, w :: []), Nat.zero_le _, by simp⟩ ?_ ?_
    · refine ⟨?_, ?_, ?_, ?_, ?_, ?_, ?_⟩ <;> simp only [mem_cons_, mem_nil_, lkp, hold_eq, b_some, frz_self, frz1_self, frzL_self, frzO_self, frzO_box, frzO_iter, frzL_cons, frzL_nil, frz_agg, frz1_row, frz1_nil, frz1_val, frz1_sl, frz1_rr, frz1_ptr, frz1_ms, frz_val, frz_sl, frz_row, frz_ptr, frz_ms, frz_fp, frz_tup, frz_fn, PV.lt, PV.ltL, PObj.lt, decide_true, Bool.true_and, Bool.and_true, Bool.and_self, Nat.reduceLT, Nat.reduceLeDiff, Nat.reduceEqDiff, if_true, if_false, ↓reduceIte, and_true, true_and, Nat.zero_le, reduceCtorEq, eq_self, decide_eq_true_eq, Int.natCast_zero, encB_cons, encB_nil, encB_len, List.length_cons, List.length_nil] <;> try first | omega | ((repeat' (first | exact And.intro rfl (by omega) | (refine And.intro ?_ ?_))) <;> first | rfl | omega | (congr 3; omega) | (congr 2; omega))
    · rintro ⟨⟨j, L⟩, g1, g2⟩
      simp only at g1 g2 ⊢
      have gl := congrArg List.length g2
      simp only [List.length_append, List.length_map, List.length_cons, List.length_drop] at gl
      by_cases hj : j < ms.length
      · have hf := getD_fits hn j
        have c3 := textB_ok (ms.getD j 0) hf
        rw [drop_B (d := 0) hj, List.map_cons] at g2
        simp (implicitDefEqProofs := false) (disch := omega) only [go_sem, reduceCtorEq, Nat.reduceEqDiff, Nat.reduceBEq, ↓reduceIte, Nat.reduceGT, Nat.reduceAdd, Int.reduceEq, Int.reduceLT, Int.reduceLE, Int.reduceNeg, Int.reduceAdd, Int.reduceSub, Int.reduceMul, Int.reduceDiv, Int.reduceMod, Nat.reduceLT, Nat.reduceLeDiff, Nat.reduceMul, Nat.reduceSub, Int.reduceToNat, go_sem, Nat.le_refl, Int.toNat_natCast, Int.toNat_zero, Int.toNat_one, str_eq, sz_bA, tl_bA, encI_len, ↓ix_enc, decide_true, Tryd.results24, ap_bA, ap_sp, List.length_append, List.size_toArray, List.length_cons, List.length_nil, Nat.zero_add, Int.cast_ofNat_Int, encB_snoc, Delta.val, sliceLike]
        with_reducible refine CallOk.of c3 rfl ?_
        simp (implicitDefEqProofs := false) (disch := omega) only [go_sem, reduceCtorEq, Nat.reduceEqDiff, Nat.reduceBEq, ↓reduceIte, Nat.reduceGT, Nat.reduceAdd, Int.reduceEq, Int.reduceLT, Int.reduceLE, Int.reduceNeg, Int.reduceAdd, Int.reduceSub, Int.reduceMul, Int.reduceDiv, Int.reduceMod, Nat.reduceLT, Nat.reduceLeDiff, Nat.reduceMul, Nat.reduceSub, Int.reduceToNat, go_sem, Nat.le_refl, Int.toNat_natCast, Int.toNat_zero, Int.toNat_one, str_eq, sz_bA, tl_bA, encI_len, ↓ix_enc, decide_true, Tryd.results24, ap_bA, ap_sp, List.length_append, List.size_toArray, List.length_cons, List.length_nil, Nat.zero_add, Int.cast_ofNat_Int, encB_snoc, Delta.val, sliceLike]
        first
          | refine ⟨⟨(j + 1, L ++ [tOf (ms.getD j 0)]), hj, by simpa using g2⟩, by simp only; omega, ?_⟩
          | refine ⟨(by first | omega | (simp only [encB_len]; omega)), ⟨(j + 1, L ++ [tOf (ms.getD j 0)]), hj, by simpa using g2⟩, by simp only; omega, ?_⟩
          | refine ⟨(by first | omega | (simp only [encB_len]; omega)), (by first | omega | (simp only [encB_len]; omega)), ⟨(j + 1, L ++ [tOf (ms.getD j 0)]), hj, by simpa using g2⟩, by simp only; omega, ?_⟩
          | refine ⟨(by first | omega | (simp only [encB_len]; omega)), (by first | omega | (simp only [encB_len]; omega)), (by first | omega | (simp only [encB_len]; omega)), ⟨(j + 1, L ++ [tOf (ms.getD j 0)]), hj, by simpa using g2⟩, by simp only; omega, ?_⟩
        refine ⟨?_, ?_, ?_, ?_, ?_, ?_, ?_⟩ <;> simp only [mem_cons_, mem_nil_, lkp, hold_eq, b_some, frz_self, frz1_self, frzL_self, frzO_self, frzO_box, frzO_iter, frzL_cons, frzL_nil, frz_agg, frz1_row, frz1_nil, frz1_val, frz1_sl, frz1_rr, frz1_ptr, frz1_ms, frz_val, frz_sl, frz_row, frz_ptr, frz_ms, frz_fp, frz_tup, frz_fn, PV.lt, PV.ltL, PObj.lt, decide_true, Bool.true_and, Bool.and_true, Bool.and_self, Nat.reduceLT, Nat.reduceLeDiff, Nat.reduceEqDiff, if_true, if_false, ↓reduceIte, and_true, true_and, Nat.zero_le, reduceCtorEq, eq_self, decide_eq_true_eq, Int.natCast_add, Int.natCast_one, encB_snoc, encB_len, List.length_append, List.length_cons, List.length_nil] <;> try first | omega | ((repeat' (first | exact And.intro rfl (by omega) | (refine And.intro ?_ ?_))) <;> first | rfl | omega | (congr 3; omega) | (congr 2; omega))
      · have hj' : j = ms.length := by omega
        subst hj'
        rw [List.drop_length, List.map_nil, List.append_nil] at g2
        subst g2
        cases ha : asks w with
        | none =>
          rw [ha] at c1
          unfold shpP at c1
          simp only at c1
          have hr0 : rs = [] := by rw [hrs]; unfold restC; simp only; rw [ha]
          rw [hr0] at c2 ⊢
          rw [List.append_nil] at c2 ⊢
          simp (implicitDefEqProofs := false) (disch := omega) only [go_sem, reduceCtorEq, Nat.reduceEqDiff, Nat.reduceBEq, ↓reduceIte, Nat.reduceGT, Nat.reduceAdd, Int.reduceEq, Int.reduceLT, Int.reduceLE, Int.reduceNeg, Int.reduceAdd, Int.reduceSub, Int.reduceMul, Int.reduceDiv, Int.reduceMod, Nat.reduceLT, Nat.reduceLeDiff, Nat.reduceMul, Nat.reduceSub, Int.reduceToNat, go_sem, Nat.le_refl, Int.toNat_natCast, Int.toNat_zero, Int.toNat_one, str_eq, sz_bA, tl_bA, encI_len, ↓ix_enc, decide_true, Tryd.results24, ap_bA, ap_sp, List.length_append, List.size_toArray, List.length_cons, List.length_nil, Nat.zero_add, Int.cast_ofNat_Int, encB_snoc, Delta.val, sliceLike]
          with_reducible refine CallOk.of c1 rfl ?_
          simp (implicitDefEqProofs := false) (disch := omega) only [go_sem, reduceCtorEq, Nat.reduceEqDiff, Nat.reduceBEq, ↓reduceIte, Nat.reduceGT, Nat.reduceAdd, Int.reduceEq, Int.reduceLT, Int.reduceLE, Int.reduceNeg, Int.reduceAdd, Int.reduceSub, Int.reduceMul, Int.reduceDiv, Int.reduceMod, Nat.reduceLT, Nat.reduceLeDiff, Nat.reduceMul, Nat.reduceSub, Int.reduceToNat, go_sem, Nat.le_refl, Int.toNat_natCast, Int.toNat_zero, Int.toNat_one, str_eq, sz_bA, tl_bA, encI_len, ↓ix_enc, decide_true, Tryd.results24, ap_bA, ap_sp, List.length_append, List.size_toArray, List.length_cons, List.length_nil, Nat.zero_add, Int.cast_ofNat_Int, encB_snoc, Delta.val, sliceLike]
          refine CallOk.of c2 rfl ?_
          simp (implicitDefEqProofs := false) (disch := omega) only [go_sem, reduceCtorEq, Nat.reduceEqDiff, Nat.reduceBEq, ↓reduceIte, Nat.reduceGT, Nat.reduceAdd, Int.reduceEq, Int.reduceLT, Int.reduceLE, Int.reduceNeg, Int.reduceAdd, Int.reduceSub, Int.reduceMul, Int.reduceDiv, Int.reduceMod, Nat.reduceLT, Nat.reduceLeDiff, Nat.reduceMul, Nat.reduceSub, Int.reduceToNat, go_sem, Nat.le_refl, Int.toNat_natCast, Int.toNat_zero, Int.toNat_one, str_eq, sz_bA, tl_bA, encI_len, ↓ix_enc, decide_true, Tryd.results24, ap_bA, ap_sp, List.length_append, List.size_toArray, List.length_cons, List.length_nil, Nat.zero_add, Int.cast_ofNat_Int, encB_snoc, Delta.val, sliceLike]
        | some q =>
          obtain ⟨x, y, r⟩ := q
          rw [ha] at c1
          unfold shpP at c1
          simp only at c1
          cases r with
          | false =>
            have hr0 : rs = [] := by rw [hrs]; unfold restC; simp only; rw [ha]
            rw [hr0] at c2 ⊢
            rw [List.append_nil] at c2 ⊢
            simp (implicitDefEqProofs := false) (disch := omega) only [go_sem, reduceCtorEq, Nat.reduceEqDiff, Nat.reduceBEq, ↓reduceIte, Nat.reduceGT, Nat.reduceAdd, Int.reduceEq, Int.reduceLT, Int.reduceLE, Int.reduceNeg, Int.reduceAdd, Int.reduceSub, Int.reduceMul, Int.reduceDiv, Int.reduceMod, Nat.reduceLT, Nat.reduceLeDiff, Nat.reduceMul, Nat.reduceSub, Int.reduceToNat, go_sem, Nat.le_refl, Int.toNat_natCast, Int.toNat_zero, Int.toNat_one, str_eq, sz_bA, tl_bA, encI_len, ↓ix_enc, decide_true, Tryd.results24, ap_bA, ap_sp, List.length_append, List.size_toArray, List.length_cons, List.length_nil, Nat.zero_add, Int.cast_ofNat_Int, encB_snoc, Delta.val, sliceLike]
            with_reducible refine CallOk.of c1 rfl ?_
            simp (implicitDefEqProofs := false) (disch := omega) only [go_sem, reduceCtorEq, Nat.reduceEqDiff, Nat.reduceBEq, ↓reduceIte, Nat.reduceGT, Nat.reduceAdd, Int.reduceEq, Int.reduceLT, Int.reduceLE, Int.reduceNeg, Int.reduceAdd, Int.reduceSub, Int.reduceMul, Int.reduceDiv, Int.reduceMod, Nat.reduceLT, Nat.reduceLeDiff, Nat.reduceMul, Nat.reduceSub, Int.reduceToNat, go_sem, Nat.le_refl, Int.toNat_natCast, Int.toNat_zero, Int.toNat_one, str_eq, sz_bA, tl_bA, encI_len, ↓ix_enc, decide_true, Tryd.results24, ap_bA, ap_sp, List.length_append, List.size_toArray, List.length_cons, List.length_nil, Nat.zero_add, Int.cast_ofNat_Int, encB_snoc, Delta.val, sliceLike]
            refine CallOk.of c2 rfl ?_
            simp (implicitDefEqProofs := false) (disch := omega) only [go_sem, reduceCtorEq, Nat.reduceEqDiff, Nat.reduceBEq, ↓reduceIte, Nat.reduceGT, Nat.reduceAdd, Int.reduceEq, Int.reduceLT, Int.reduceLE, Int.reduceNeg, Int.reduceAdd, Int.reduceSub, Int.reduceMul, Int.reduceDiv, Int.reduceMod, Nat.reduceLT, Nat.reduceLeDiff, Nat.reduceMul, Nat.reduceSub, Int.reduceToNat, go_sem, Nat.le_refl, Int.toNat_natCast, Int.toNat_zero, Int.toNat_one, str_eq, sz_bA, tl_bA, encI_len, ↓ix_enc, decide_true, Tryd.results24, ap_bA, ap_sp, List.length_append, List.size_toArray, List.length_cons, List.length_nil, Nat.zero_add, Int.cast_ofNat_Int, encB_snoc, Delta.val, sliceLike]
          | true =>
            have hr0 : rs = [rt] := by rw [hrs]; unfold restC; simp only; rw [ha]
            rw [hr0] at c2 ⊢
            simp (implicitDefEqProofs := false) (disch := omega) only [go_sem, reduceCtorEq, Nat.reduceEqDiff, Nat.reduceBEq, ↓reduceIte, Nat.reduceGT, Nat.reduceAdd, Int.reduceEq, Int.reduceLT, Int.reduceLE, Int.reduceNeg, Int.reduceAdd, Int.reduceSub, Int.reduceMul, Int.reduceDiv, Int.reduceMod, Nat.reduceLT, Nat.reduceLeDiff, Nat.reduceMul, Nat.reduceSub, Int.reduceToNat, go_sem, Nat.le_refl, Int.toNat_natCast, Int.toNat_zero, Int.toNat_one, str_eq, sz_bA, tl_bA, encI_len, ↓ix_enc, decide_true, Tryd.results24, ap_bA, ap_sp, List.length_append, List.size_toArray, List.length_cons, List.length_nil, Nat.zero_add, Int.cast_ofNat_Int, encB_snoc, Delta.val, sliceLike]
            with_reducible refine CallOk.of c1 rfl ?_
            simp (implicitDefEqProofs := false) (disch := omega) only [go_sem, reduceCtorEq, Nat.reduceEqDiff, Nat.reduceBEq, ↓reduceIte, Nat.reduceGT, Nat.reduceAdd, Int.reduceEq, Int.reduceLT, Int.reduceLE, Int.reduceNeg, Int.reduceAdd, Int.reduceSub, Int.reduceMul, Int.reduceDiv, Int.reduceMod, Nat.reduceLT, Nat.reduceLeDiff, Nat.reduceMul, Nat.reduceSub, Int.reduceToNat, go_sem, Nat.le_refl, Int.toNat_natCast, Int.toNat_zero, Int.toNat_one, str_eq, sz_bA, tl_bA, encI_len, ↓ix_enc, decide_true, Tryd.results24, ap_bA, ap_sp, List.length_append, List.size_toArray, List.length_cons, List.length_nil, Nat.zero_add, Int.cast_ofNat_Int, encB_snoc, Delta.val, sliceLike]
            refine ⟨(by first | omega | (simp only [List.length_map, List.length_append, List.length_cons, List.length_nil]; omega)), (by first | omega | (simp only [List.length_map, List.length_append, List.length_cons, List.length_nil]; omega)), ?_⟩
            refine CallOk.of c2 rfl ?_
            simp (implicitDefEqProofs := false) (disch := omega) only [go_sem, reduceCtorEq, Nat.reduceEqDiff, Nat.reduceBEq, ↓reduceIte, Nat.reduceGT, Nat.reduceAdd, Int.reduceEq, Int.reduceLT, Int.reduceLE, Int.reduceNeg, Int.reduceAdd, Int.reduceSub, Int.reduceMul, Int.reduceDiv, Int.reduceMod, Nat.reduceLT, Nat.reduceLeDiff, Nat.reduceMul, Nat.reduceSub, Int.reduceToNat, go_sem, Nat.le_refl, Int.toNat_natCast, Int.toNat_zero, Int.toNat_one, str_eq, sz_bA, tl_bA, encI_len, ↓ix_enc, decide_true, Tryd.results24, ap_bA, ap_sp, List.length_append, List.size_toArray, List.length_cons, List.length_nil, Nat.zero_add, Int.cast_ofNat_Int, encB_snoc, Delta.val, sliceLike]
  | cons n0 nr =>
    rw [encB_cons]
    simp only [List.length_cons] at h1
    simp (implicitDefEqProofs := false) (disch := omega) only [go_sem, reduceCtorEq, Nat.reduceEqDiff, Nat.reduceBEq, ↓reduceIte, Nat.reduceGT, Nat.reduceAdd, Int.reduceEq, Int.reduceLT, Int.reduceLE, Int.reduceNeg, Int.reduceAdd, Int.reduceSub, Int.reduceMul, Int.reduceDiv, Int.reduceMod, Nat.reduceLT, Nat.reduceLeDiff, Nat.reduceMul, Nat.reduceSub, Int.reduceToNat, go_sem, Nat.le_refl, Int.toNat_natCast, Int.toNat_zero, Int.toNat_one, str_eq, sz_bA, tl_bA, encI_len, ↓ix_enc, decide_true, Tryd.results24, ap_bA, ap_sp, List.length_append, List.size_toArray, List.length_cons, List.length_nil, Nat.zero_add, Int.cast_ofNat_Int, encB_snoc, Delta.val, sliceLike]
    refine p_loop (ι := { p : Nat × List (List UInt8) // p.1 ≤ ms.length ∧ p.2 ++ (ms.drop p.1).map tOf = w :: ((n0 :: nr) ++ ms.map tOf) })
      (fun p => ⟨[(17, vI p.1.1), (16, vI ms.length), (15, .sl (encI ms)), (3, .row 4 (encB p.1.2)), (1, .ptr 0 0)], [(0, .box 33 [vS (bA w), .sl (encB (n0 :: nr)), .sl (encI ms), vS (bA rt)])], [(4, ⟨9, 1, p.1.2.length⟩)], 5, 5⟩) (fun p => ms.length - p.1.1) ⟨(0, w :: (n0 :: nr)), Nat.zero_le _, by simp⟩ ?_ ?_
    · refine ⟨?_, ?_, ?_, ?_, ?_, ?_, ?_⟩ <;> simp only [mem_cons_, mem_nil_, lkp, hold_eq, b_some, frz_self, frz1_self, frzL_self, frzO_self, frzO_box, frzO_iter, frzL_cons, frzL_nil, frz_agg, frz1_row, frz1_nil, frz1_val, frz1_sl, frz1_rr, frz1_ptr, frz1_ms, frz_val, frz_sl, frz_row, frz_ptr, frz_ms, frz_fp, frz_tup, frz_fn, PV.lt, PV.ltL, PObj.lt, decide_true, Bool.true_and, Bool.and_true, Bool.and_self, Nat.reduceLT, Nat.reduceLeDiff, Nat.reduceEqDiff, if_true, if_false, ↓reduceIte, and_true, true_and, Nat.zero_le, reduceCtorEq, eq_self, decide_eq_true_eq, Int.natCast_zero, encB_cons, encB_nil, encB_len, List.length_cons, List.length_nil] <;> try first | omega | ((repeat' (first | exact And.intro rfl (by omega) | (refine And.intro ?_ ?_))) <;> first | rfl | omega | (congr 3; omega) | (congr 2; omega))
    · rintro ⟨⟨j, L⟩, g1, g2⟩
      simp only at g1 g2 ⊢
      have gl := congrArg List.length g2
      simp only [List.length_append, List.length_map, List.length_cons, List.length_drop] at gl
      by_cases hj : j < ms.length
      · have hf := getD_fits hn j
        have c3 := textB_ok (ms.getD j 0) hf
        rw [drop_B (d := 0) hj, List.map_cons] at g2
        simp (implicitDefEqProofs := false) (disch := omega) only [go_sem, reduceCtorEq, Nat.reduceEqDiff, Nat.reduceBEq, ↓reduceIte, Nat.reduceGT, Nat.reduceAdd, Int.reduceEq, Int.reduceLT, Int.reduceLE, Int.reduceNeg, Int.reduceAdd, Int.reduceSub, Int.reduceMul, Int.reduceDiv, Int.reduceMod, Nat.reduceLT, Nat.reduceLeDiff, Nat.reduceMul, Nat.reduceSub, Int.reduceToNat, go_sem, Nat.le_refl, Int.toNat_natCast, Int.toNat_zero, Int.toNat_one, str_eq, sz_bA, tl_bA, encI_len, ↓ix_enc, decide_true, Tryd.results24, ap_bA, ap_sp, List.length_append, List.size_toArray, List.length_cons, List.length_nil, Nat.zero_add, Int.cast_ofNat_Int, encB_snoc, Delta.val, sliceLike]
        with_reducible refine CallOk.of c3 rfl ?_
        simp (implicitDefEqProofs := false) (disch := omega) only [go_sem, reduceCtorEq, Nat.reduceEqDiff, Nat.reduceBEq, ↓reduceIte, Nat.reduceGT, Nat.reduceAdd, Int.reduceEq, Int.reduceLT, Int.reduceLE, Int.reduceNeg, Int.reduceAdd, Int.reduceSub, Int.reduceMul, Int.reduceDiv, Int.reduceMod, Nat.reduceLT, Nat.reduceLeDiff, Nat.reduceMul, Nat.reduceSub, Int.reduceToNat, go_sem, Nat.le_refl, Int.toNat_natCast, Int.toNat_zero, Int.toNat_one, str_eq, sz_bA, tl_bA, encI_len, ↓ix_enc, decide_true, Tryd.results24, ap_bA, ap_sp, List.length_append, List.size_toArray, List.length_cons, List.length_nil, Nat.zero_add, Int.cast_ofNat_Int, encB_snoc, Delta.val, sliceLike]
        first
          | refine ⟨⟨(j + 1, L ++ [tOf (ms.getD j 0)]), hj, by simpa using g2⟩, by simp only; omega, ?_⟩
          | refine ⟨(by first | omega | (simp only [encB_len]; omega)), ⟨(j + 1, L ++ [tOf (ms.getD j 0)]), hj, by simpa using g2⟩, by simp only; omega, ?_⟩
          | refine ⟨(by first | omega | (simp only [encB_len]; omega)), (by first | omega | (simp only [encB_len]; omega)), ⟨(j + 1, L ++ [tOf (ms.getD j 0)]), hj, by simpa using g2⟩, by simp only; omega, ?_⟩
          | refine ⟨(by first | omega | (simp only [encB_len]; omega)), (by first | omega | (simp only [encB_len]; omega)), (by first | omega | (simp only [encB_len]; omega)), ⟨(j + 1, L ++ [tOf (ms.getD j 0)]), hj, by simpa using g2⟩, by simp only; omega, ?_⟩
        refine ⟨?_, ?_, ?_, ?_, ?_, ?_, ?_⟩ <;> simp only [mem_cons_, mem_nil_, lkp, hold_eq, b_some, frz_self, frz1_self, frzL_self, frzO_self, frzO_box, frzO_iter, frzL_cons, frzL_nil, frz_agg, frz1_row, frz1_nil, frz1_val, frz1_sl, frz1_rr, frz1_ptr, frz1_ms, frz_val, frz_sl, frz_row, frz_ptr, frz_ms, frz_fp, frz_tup, frz_fn, PV.lt, PV.ltL, PObj.lt, decide_true, Bool.true_and, Bool.and_true, Bool.and_self, Nat.reduceLT, Nat.reduceLeDiff, Nat.reduceEqDiff, if_true, if_false, ↓reduceIte, and_true, true_and, Nat.zero_le, reduceCtorEq, eq_self, decide_eq_true_eq, Int.natCast_add, Int.natCast_one, encB_snoc, encB_len, List.length_append, List.length_cons, List.length_nil] <;> try first | omega | ((repeat' (first | exact And.intro rfl (by omega) | (refine And.intro ?_ ?_))) <;> first | rfl | omega | (congr 3; omega) | (congr 2; omega))
      · have hj' : j = ms.length := by omega
        subst hj'
        rw [List.drop_length, List.map_nil, List.append_nil] at g2
        subst g2
        cases ha : asks w with
        | none =>
          rw [ha] at c1
          unfold shpP at c1
          simp only at c1
          have hr0 : rs = [] := by rw [hrs]; unfold restC; simp only; rw [ha]
          rw [hr0] at c2 ⊢
          rw [List.append_nil] at c2 ⊢
          simp (implicitDefEqProofs := false) (disch := omega) only [go_sem, reduceCtorEq, Nat.reduceEqDiff, Nat.reduceBEq, ↓reduceIte, Nat.reduceGT, Nat.reduceAdd, Int.reduceEq, Int.reduceLT, Int.reduceLE, Int.reduceNeg, Int.reduceAdd, Int.reduceSub, Int.reduceMul, Int.reduceDiv, Int.reduceMod, Nat.reduceLT, Nat.reduceLeDiff, Nat.reduceMul, Nat.reduceSub, Int.reduceToNat, go_sem, Nat.le_refl, Int.toNat_natCast, Int.toNat_zero, Int.toNat_one, str_eq, sz_bA, tl_bA, encI_len, ↓ix_enc, decide_true, Tryd.results24, ap_bA, ap_sp, List.length_append, List.size_toArray, List.length_cons, List.length_nil, Nat.zero_add, Int.cast_ofNat_Int, encB_snoc, Delta.val, sliceLike]
          with_reducible refine CallOk.of c1 rfl ?_
          simp (implicitDefEqProofs := false) (disch := omega) only [go_sem, reduceCtorEq, Nat.reduceEqDiff, Nat.reduceBEq, ↓reduceIte, Nat.reduceGT, Nat.reduceAdd, Int.reduceEq, Int.reduceLT, Int.reduceLE, Int.reduceNeg, Int.reduceAdd, Int.reduceSub, Int.reduceMul, Int.reduceDiv, Int.reduceMod, Nat.reduceLT, Nat.reduceLeDiff, Nat.reduceMul, Nat.reduceSub, Int.reduceToNat, go_sem, Nat.le_refl, Int.toNat_natCast, Int.toNat_zero, Int.toNat_one, str_eq, sz_bA, tl_bA, encI_len, ↓ix_enc, decide_true, Tryd.results24, ap_bA, ap_sp, List.length_append, List.size_toArray, List.length_cons, List.length_nil, Nat.zero_add, Int.cast_ofNat_Int, encB_snoc, Delta.val, sliceLike]
          refine CallOk.of c2 rfl ?_
          simp (implicitDefEqProofs := false) (disch := omega) only [go_sem, reduceCtorEq, Nat.reduceEqDiff, Nat.reduceBEq, ↓reduceIte, Nat.reduceGT, Nat.reduceAdd, Int.reduceEq, Int.reduceLT, Int.reduceLE, Int.reduceNeg, Int.reduceAdd, Int.reduceSub, Int.reduceMul, Int.reduceDiv, Int.reduceMod, Nat.reduceLT, Nat.reduceLeDiff, Nat.reduceMul, Nat.reduceSub, Int.reduceToNat, go_sem, Nat.le_refl, Int.toNat_natCast, Int.toNat_zero, Int.toNat_one, str_eq, sz_bA, tl_bA, encI_len, ↓ix_enc, decide_true, Tryd.results24, ap_bA, ap_sp, List.length_append, List.size_toArray, List.length_cons, List.length_nil, Nat.zero_add, Int.cast_ofNat_Int, encB_snoc, Delta.val, sliceLike]
        | some q =>
          obtain ⟨x, y, r⟩ := q
          rw [ha] at c1
          unfold shpP at c1
          simp only at c1
          cases r with
          | false =>
            have hr0 : rs = [] := by rw [hrs]; unfold restC; simp only; rw [ha]
            rw [hr0] at c2 ⊢
            rw [List.append_nil] at c2 ⊢
            simp (implicitDefEqProofs := false) (disch := omega) only [go_sem, reduceCtorEq, Nat.reduceEqDiff, Nat.reduceBEq, ↓reduceIte, Nat.reduceGT, Nat.reduceAdd, Int.reduceEq, Int.reduceLT, Int.reduceLE, Int.reduceNeg, Int.reduceAdd, Int.reduceSub, Int.reduceMul, Int.reduceDiv, Int.reduceMod, Nat.reduceLT, Nat.reduceLeDiff, Nat.reduceMul, Nat.reduceSub, Int.reduceToNat, go_sem, Nat.le_refl, Int.toNat_natCast, Int.toNat_zero, Int.toNat_one, str_eq, sz_bA, tl_bA, encI_len, ↓ix_enc, decide_true, Tryd.results24, ap_bA, ap_sp, List.length_append, List.size_toArray, List.length_cons, List.length_nil, Nat.zero_add, Int.cast_ofNat_Int, encB_snoc, Delta.val, sliceLike]
            with_reducible refine CallOk.of c1 rfl ?_
            simp (implicitDefEqProofs := false) (disch := omega) only [go_sem, reduceCtorEq, Nat.reduceEqDiff, Nat.reduceBEq, ↓reduceIte, Nat.reduceGT, Nat.reduceAdd, Int.reduceEq, Int.reduceLT, Int.reduceLE, Int.reduceNeg, Int.reduceAdd, Int.reduceSub, Int.reduceMul, Int.reduceDiv, Int.reduceMod, Nat.reduceLT, Nat.reduceLeDiff, Nat.reduceMul, Nat.reduceSub, Int.reduceToNat, go_sem, Nat.le_refl, Int.toNat_natCast, Int.toNat_zero, Int.toNat_one, str_eq, sz_bA, tl_bA, encI_len, ↓ix_enc, decide_true, Tryd.results24, ap_bA, ap_sp, List.length_append, List.size_toArray, List.length_cons, List.length_nil, Nat.zero_add, Int.cast_ofNat_Int, encB_snoc, Delta.val, sliceLike]
            refine CallOk.of c2 rfl ?_
            simp (implicitDefEqProofs := false) (disch := omega) only [go_sem, reduceCtorEq, Nat.reduceEqDiff, Nat.reduceBEq, ↓reduceIte, Nat.reduceGT, Nat.reduceAdd, Int.reduceEq, Int.reduceLT, Int.reduceLE, Int.reduceNeg, Int.reduceAdd, Int.reduceSub, Int.reduceMul, Int.reduceDiv, Int.reduceMod, Nat.reduceLT, Nat.reduceLeDiff, Nat.reduceMul, Nat.reduceSub, Int.reduceToNat, go_sem, Nat.le_refl, Int.toNat_natCast, Int.toNat_zero, Int.toNat_one, str_eq, sz_bA, tl_bA, encI_len, ↓ix_enc, decide_true, Tryd.results24, ap_bA, ap_sp, List.length_append, List.size_toArray, List.length_cons, List.length_nil, Nat.zero_add, Int.cast_ofNat_Int, encB_snoc, Delta.val, sliceLike]
          | true =>
            have hr0 : rs = [rt] := by rw [hrs]; unfold restC; simp only; rw [ha]
            rw [hr0] at c2 ⊢
            simp (implicitDefEqProofs := false) (disch := omega) only [go_sem, reduceCtorEq, Nat.reduceEqDiff, Nat.reduceBEq, ↓reduceIte, Nat.reduceGT, Nat.reduceAdd, Int.reduceEq, Int.reduceLT, Int.reduceLE, Int.reduceNeg, Int.reduceAdd, Int.reduceSub, Int.reduceMul, Int.reduceDiv, Int.reduceMod, Nat.reduceLT, Nat.reduceLeDiff, Nat.reduceMul, Nat.reduceSub, Int.reduceToNat, go_sem, Nat.le_refl, Int.toNat_natCast, Int.toNat_zero, Int.toNat_one, str_eq, sz_bA, tl_bA, encI_len, ↓ix_enc, decide_true, Tryd.results24, ap_bA, ap_sp, List.length_append, List.size_toArray, List.length_cons, List.length_nil, Nat.zero_add, Int.cast_ofNat_Int, encB_snoc, Delta.val, sliceLike]
            with_reducible refine CallOk.of c1 rfl ?_
            simp (implicitDefEqProofs := false) (disch := omega) only [go_sem, reduceCtorEq, Nat.reduceEqDiff, Nat.reduceBEq, ↓reduceIte, Nat.reduceGT, Nat.reduceAdd, Int.reduceEq, Int.reduceLT, Int.reduceLE, Int.reduceNeg, Int.reduceAdd, Int.reduceSub, Int.reduceMul, Int.reduceDiv, Int.reduceMod, Nat.reduceLT, Nat.reduceLeDiff, Nat.reduceMul, Nat.reduceSub, Int.reduceToNat, go_sem, Nat.le_refl, Int.toNat_natCast, Int.toNat_zero, Int.toNat_one, str_eq, sz_bA, tl_bA, encI_len, ↓ix_enc, decide_true, Tryd.results24, ap_bA, ap_sp, List.length_append, List.size_toArray, List.length_cons, List.length_nil, Nat.zero_add, Int.cast_ofNat_Int, encB_snoc, Delta.val, sliceLike]
            refine ⟨(by first | omega | (simp only [List.length_map, List.length_append, List.length_cons, List.length_nil]; omega)), (by first | omega | (simp only [List.length_map, List.length_append, List.length_cons, List.length_nil]; omega)), ?_⟩
            refine CallOk.of c2 rfl ?_
            simp (implicitDefEqProofs := false) (disch := omega) only [go_sem, reduceCtorEq, Nat.reduceEqDiff, Nat.reduceBEq, ↓reduceIte, Nat.reduceGT, Nat.reduceAdd, Int.reduceEq, Int.reduceLT, Int.reduceLE, Int.reduceNeg, Int.reduceAdd, Int.reduceSub, Int.reduceMul, Int.reduceDiv, Int.reduceMod, Nat.reduceLT, Nat.reduceLeDiff, Nat.reduceMul, Nat.reduceSub, Int.reduceToNat, go_sem, Nat.le_refl, Int.toNat_natCast, Int.toNat_zero, Int.toNat_one, str_eq, sz_bA, tl_bA, encI_len, ↓ix_enc, decide_true, Tryd.results24, ap_bA, ap_sp, List.length_append, List.size_toArray, List.length_cons, List.length_nil, Nat.zero_add, Int.cast_ofNat_Int, encB_snoc, Delta.val, sliceLike]
end Go.Proofs.YtegehnojbfedlaaDoor
