/-
  Chapter 25: the same; awake; the law Parses.
-/
import Derived.Test.YtegehnojbfedlaaDoorC8
open Go Go.Proofs Go.Pw Go.RowKit
namespace Go.Proofs.YtegehnojbfedlaaDoor
set_option maxRecDepth 4000
set_option linter.unusedVariables false
set_option linter.unusedSimpArgs false
theorem conv_ok (c : Cm) : Ok Tryd.prog 16 [cmP c] (cmP c) := by
  unfold cmP
  refine Ok.of_pwp (by kernel_rfl) Tryd.func16 rfl (by kernel_rfl) (by kernel_rfl) ?_
  simp (implicitDefEqProofs := false) (disch := omega) only [go_sem, reduceCtorEq, Nat.reduceEqDiff, Nat.reduceBEq, ↓reduceIte, Nat.reduceGT, Nat.reduceAdd, Int.reduceEq, Int.reduceLT, Int.reduceLE, Int.reduceNeg, Int.reduceAdd, Int.reduceSub, Int.reduceMul, Int.reduceDiv, Int.reduceMod, Nat.reduceLT, Nat.reduceLeDiff, Nat.reduceMul, Nat.reduceSub, Int.reduceToNat, go_sem, Nat.le_refl, Int.toNat_natCast, Int.toNat_zero, Int.toNat_one, str_eq, sz_bA, tl_bA, encI_len, ↓ix_enc, decide_true, Tryd.results16]
  try rfl
set_option maxHeartbeats 4000000 in
theorem same_self (c : Cm) (h1 : c.names.length ≤ 1000000) (h2 : c.nums.length ≤ 1000000) : Ok Tryd.prog 15 [cmP c, cmP c] (vB true) := by
  obtain ⟨w, ns, ms, rt⟩ := c
  simp only at h1 h2
  unfold cmP
  refine Ok.of_pwp (by kernel_rfl) Tryd.func15 rfl (by kernel_rfl) (by kernel_rfl) ?_
  simp (implicitDefEqProofs := false) (disch := omega) only [go_sem, reduceCtorEq, Nat.reduceEqDiff, Nat.reduceBEq, ↓reduceIte, Nat.reduceGT, Nat.reduceAdd, Int.reduceEq, Int.reduceLT, Int.reduceLE, Int.reduceNeg, Int.reduceAdd, Int.reduceSub, Int.reduceMul, Int.reduceDiv, Int.reduceMod, Nat.reduceLT, Nat.reduceLeDiff, Nat.reduceMul, Nat.reduceSub, Int.reduceToNat, go_sem, Nat.le_refl, Int.toNat_natCast, Int.toNat_zero, Int.toNat_one, str_eq, sz_bA, tl_bA, encI_len, ↓ix_enc, decide_true, Tryd.results15]
  refine p_loop (ι := { i : Nat // i ≤ ns.length }) (fun p => ⟨[(40, vI p.1), (39, vI ns.length), (3, .ptr 1 0), (2, .ptr 0 0)], [(1, .box 25 [vS (bA w), .sl (encB ns), .sl (encI ms), vS (bA rt)]), (0, .box 25 [vS (bA w), .sl (encB ns), .sl (encI ms), vS (bA rt)])], [], 2, 0⟩) (fun p => ns.length - p.1) ⟨0, Nat.zero_le _⟩ ?_ ?_
  · refine ⟨?_, ?_, ?_, ?_, ?_, ?_, ?_⟩ <;> simp only [mem_cons_, mem_nil_, lkp, hold_eq, b_some, frz_self, frz1_self, frzL_self, frzO_self, frzO_box, frzO_iter, frzL_cons, frzL_nil, frz_agg, frz1_row, frz1_nil, frz1_val, frz1_sl, frz1_rr, frz1_ptr, frz1_ms, frz_val, frz_sl, frz_row, frz_ptr, frz_ms, frz_fp, frz_tup, frz_fn, PV.lt, PV.ltL, PObj.lt, decide_true, Bool.true_and, Bool.and_true, Bool.and_self, Nat.reduceLT, Nat.reduceLeDiff, Nat.reduceEqDiff, if_true, if_false, ↓reduceIte, and_true, true_and, Nat.zero_le, reduceCtorEq, eq_self, decide_eq_true_eq, Int.natCast_zero] <;> try first | omega | ((repeat' (first | exact And.intro rfl (by omega) | (refine And.intro ?_ ?_))) <;> first | rfl | omega | (congr 3; omega) | (congr 2; omega))
  · rintro ⟨i, hi⟩
    simp only
    by_cases hl : i < ns.length
    · simp (implicitDefEqProofs := false) (disch := omega) only [go_sem, reduceCtorEq, Nat.reduceEqDiff, Nat.reduceBEq, ↓reduceIte, Nat.reduceGT, Nat.reduceAdd, Int.reduceEq, Int.reduceLT, Int.reduceLE, Int.reduceNeg, Int.reduceAdd, Int.reduceSub, Int.reduceMul, Int.reduceDiv, Int.reduceMod, Nat.reduceLT, Nat.reduceLeDiff, Nat.reduceMul, Nat.reduceSub, Int.reduceToNat, go_sem, Nat.le_refl, Int.toNat_natCast, Int.toNat_zero, Int.toNat_one, str_eq, sz_bA, tl_bA, encI_len, ↓ix_enc, decide_true, Tryd.results15]
      refine ⟨⟨i + 1, hl⟩, by simp only; omega, ?_⟩
      refine ⟨?_, ?_, ?_, ?_, ?_, ?_, ?_⟩ <;> simp only [mem_cons_, mem_nil_, lkp, hold_eq, b_some, frz_self, frz1_self, frzL_self, frzO_self, frzO_box, frzO_iter, frzL_cons, frzL_nil, frz_agg, frz1_row, frz1_nil, frz1_val, frz1_sl, frz1_rr, frz1_ptr, frz1_ms, frz_val, frz_sl, frz_row, frz_ptr, frz_ms, frz_fp, frz_tup, frz_fn, PV.lt, PV.ltL, PObj.lt, decide_true, Bool.true_and, Bool.and_true, Bool.and_self, Nat.reduceLT, Nat.reduceLeDiff, Nat.reduceEqDiff, if_true, if_false, ↓reduceIte, and_true, true_and, Nat.zero_le, reduceCtorEq, eq_self, decide_eq_true_eq, Int.natCast_add, Int.natCast_one] <;> try first | omega | ((repeat' (first | exact And.intro rfl (by omega) | (refine And.intro ?_ ?_))) <;> first | rfl | omega | (congr 3; omega) | (congr 2; omega))
    · simp (implicitDefEqProofs := false) (disch := omega) only [go_sem, reduceCtorEq, Nat.reduceEqDiff, Nat.reduceBEq, ↓reduceIte, Nat.reduceGT, Nat.reduceAdd, Int.reduceEq, Int.reduceLT, Int.reduceLE, Int.reduceNeg, Int.reduceAdd, Int.reduceSub, Int.reduceMul, Int.reduceDiv, Int.reduceMod, Nat.reduceLT, Nat.reduceLeDiff, Nat.reduceMul, Nat.reduceSub, Int.reduceToNat, go_sem, Nat.le_refl, Int.toNat_natCast, Int.toNat_zero, Int.toNat_one, str_eq, sz_bA, tl_bA, encI_len, ↓ix_enc, decide_true, Tryd.results15]
      refine p_loop (ι := { i : Nat // i ≤ ms.length }) (fun p => ⟨[(58, vI p.1), (57, vI ms.length), (3, .ptr 1 0), (2, .ptr 0 0)], [(1, .box 25 [vS (bA w), .sl (encB ns), .sl (encI ms), vS (bA rt)]), (0, .box 25 [vS (bA w), .sl (encB ns), .sl (encI ms), vS (bA rt)])], [], 2, 0⟩) (fun p => ms.length - p.1) ⟨0, Nat.zero_le _⟩ ?_ ?_
      · refine ⟨?_, ?_, ?_, ?_, ?_, ?_, ?_⟩ <;> simp only [mem_cons_, mem_nil_, lkp, hold_eq, b_some, frz_self, frz1_self, frzL_self, frzO_self, frzO_box, frzO_iter, frzL_cons, frzL_nil, frz_agg, frz1_row, frz1_nil, frz1_val, frz1_sl, frz1_rr, frz1_ptr, frz1_ms, frz_val, frz_sl, frz_row, frz_ptr, frz_ms, frz_fp, frz_tup, frz_fn, PV.lt, PV.ltL, PObj.lt, decide_true, Bool.true_and, Bool.and_true, Bool.and_self, Nat.reduceLT, Nat.reduceLeDiff, Nat.reduceEqDiff, if_true, if_false, ↓reduceIte, and_true, true_and, Nat.zero_le, reduceCtorEq, eq_self, decide_eq_true_eq, Int.natCast_zero] <;> try first | omega | ((repeat' (first | exact And.intro rfl (by omega) | (refine And.intro ?_ ?_))) <;> first | rfl | omega | (congr 3; omega) | (congr 2; omega))
      · rintro ⟨j, hj⟩
        simp only
        by_cases hk : j < ms.length
        · simp (implicitDefEqProofs := false) (disch := omega) only [go_sem, reduceCtorEq, Nat.reduceEqDiff, Nat.reduceBEq, ↓reduceIte, Nat.reduceGT, Nat.reduceAdd, Int.reduceEq, Int.reduceLT, Int.reduceLE, Int.reduceNeg, Int.reduceAdd, Int.reduceSub, Int.reduceMul, Int.reduceDiv, Int.reduceMod, Nat.reduceLT, Nat.reduceLeDiff, Nat.reduceMul, Nat.reduceSub, Int.reduceToNat, go_sem, Nat.le_refl, Int.toNat_natCast, Int.toNat_zero, Int.toNat_one, str_eq, sz_bA, tl_bA, encI_len, ↓ix_enc, decide_true, Tryd.results15]
          refine ⟨⟨j + 1, hk⟩, by simp only; omega, ?_⟩
          refine ⟨?_, ?_, ?_, ?_, ?_, ?_, ?_⟩ <;> simp only [mem_cons_, mem_nil_, lkp, hold_eq, b_some, frz_self, frz1_self, frzL_self, frzO_self, frzO_box, frzO_iter, frzL_cons, frzL_nil, frz_agg, frz1_row, frz1_nil, frz1_val, frz1_sl, frz1_rr, frz1_ptr, frz1_ms, frz_val, frz_sl, frz_row, frz_ptr, frz_ms, frz_fp, frz_tup, frz_fn, PV.lt, PV.ltL, PObj.lt, decide_true, Bool.true_and, Bool.and_true, Bool.and_self, Nat.reduceLT, Nat.reduceLeDiff, Nat.reduceEqDiff, if_true, if_false, ↓reduceIte, and_true, true_and, Nat.zero_le, reduceCtorEq, eq_self, decide_eq_true_eq, Int.natCast_add, Int.natCast_one] <;> try first | omega | ((repeat' (first | exact And.intro rfl (by omega) | (refine And.intro ?_ ?_))) <;> first | rfl | omega | (congr 3; omega) | (congr 2; omega))
        · simp (implicitDefEqProofs := false) (disch := omega) only [go_sem, reduceCtorEq, Nat.reduceEqDiff, Nat.reduceBEq, ↓reduceIte, Nat.reduceGT, Nat.reduceAdd, Int.reduceEq, Int.reduceLT, Int.reduceLE, Int.reduceNeg, Int.reduceAdd, Int.reduceSub, Int.reduceMul, Int.reduceDiv, Int.reduceMod, Nat.reduceLT, Nat.reduceLeDiff, Nat.reduceMul, Nat.reduceSub, Int.reduceToNat, go_sem, Nat.le_refl, Int.toNat_natCast, Int.toNat_zero, Int.toNat_one, str_eq, sz_bA, tl_bA, encI_len, ↓ix_enc, decide_true, Tryd.results15]
theorem nil_cm : cmP ⟨[], [], [], []⟩ = .agg [vS (bA []), .sl [], .sl [], vS (bA [])] := rfl
theorem awake_parse : parseC [99, 104, 101, 99, 107, 32, 120, 32, 97, 32, 49, 48, 48] = .ok ⟨[99, 104, 101, 99, 107], [[120], [97]], [100], []⟩ := by kernel_rfl
theorem skp_idem (l : List UInt8) : skp (skp l) = skp l := by
  cases h : skp l with
  | nil => rfl
  | cons b r =>
    apply skp_cons.2
    unfold skp at h
    have := List.head?_dropWhile_not isb l
    rw [h] at this
    simpa using this
theorem pNames_good {S : List UInt8} : ∀ {k : Nat} {L : List UInt8} {q : List (List UInt8) × List UInt8}, pNames S k L = .ok q → q.1.length = k ∧ q.1.all nameL = true ∧ q.2 <:+ L ∧ ∀ x ∈ q.1, x.length ≤ L.length
  | 0, L, q, h => by
    cases h
    exact ⟨rfl, rfl, List.suffix_refl _, fun x hx => by cases hx⟩
  | k + 1, L, q, h => by
    rw [pNames] at h
    split at h
    · rename_i hn
      cases hp : pNames S k (rst L) with
      | error e => rw [hp] at h; cases h
      | ok q' =>
        rw [hp] at h
        cases h
        have ih := pNames_good hp
        have hr := (rst_suf L).length_le
        refine ⟨by simp [ih.1], by simp [hn, ih.2.1], ih.2.2.1.trans (rst_suf L), fun x hx => ?_⟩
        rcases List.mem_cons.1 hx with rfl | hx
        · exact wrd_len L
        · have := ih.2.2.2 x hx; omega
    · cases h
theorem pNums_good {S : List UInt8} : ∀ {k : Nat} {L : List UInt8} {q : List Int × List UInt8}, pNums S k L = .ok q → q.1.length = k ∧ q.2 <:+ L
  | 0, L, q, h => by
    cases h
    exact ⟨rfl, List.suffix_refl _⟩
  | k + 1, L, q, h => by
    rw [pNums] at h
    split at h
    · cases hp : pNums S k (rst L) with
      | error e => rw [hp] at h; cases h
      | ok q' =>
        rw [hp] at h
        cases h
        have ih := pNums_good hp
        exact ⟨by simp [ih.1], ih.2.trans (rst_suf L)⟩
    · cases h
theorem parse_good {S : List UInt8} {c : Cm} (h : parseC S = .ok c) : goodC c = true ∧ c.names.length ≤ 3 ∧ c.nums.length ≤ 3 ∧ c.rest.length ≤ S.length ∧ ∀ x ∈ c.names, x.length ≤ S.length := by
  unfold parseC at h
  split at h
  · cases h
  split at h
  · cases h
  split at h
  · cases h
  · rename_i a b r ha
    have hab := asks_le ha
    unfold pAll at h
    split at h
    · cases h
    · rename_i ns M hn
      split at h
      · cases h
      · rename_i ms Q hm
        have g1 := pNames_good hn
        have g2 := pNums_good hm
        have hr := (rst_suf S).length_le
        have hM := g1.2.2.1.length_le
        have hQ := g2.2.length_le
        have hsk := (skp_suf Q).length_le
        unfold pRest at h
        split at h
        · cases h
        · rename_i hrr
          cases h
          simp only at g1 g2
          refine ⟨?_, by simp only; omega, by simp only; omega, by simp only; simp only at hM hQ; omega, fun x hx => by have := g1.2.2.2 x hx; omega⟩
          unfold goodC
          simp only
          rw [ha]
          simp only [g1.1, g2.1, g1.2.1, skp_idem, decide_true, Bool.true_and, Bool.and_true, Bool.or_eq_true, decide_eq_true_eq]
          cases r with
          | true => exact .inl rfl
          | false => exact .inr (by apply Decidable.byContradiction; intro k; exact hrr ⟨rfl, k⟩)
theorem pNames_err {S : List UInt8} : ∀ {k : Nat} {L : List UInt8} {e : Nat × Int}, pNames S k L = .error e → e.2 ≠ 0
  | 0, L, e, h => by cases h
  | k + 1, L, e, h => by
    rw [pNames] at h
    split at h
    · cases hp : pNames S k (rst L) with
      | error e => rw [hp] at h; cases h; exact pNames_err hp
      | ok q' => rw [hp] at h; cases h
    · cases h; show (1 : Int) ≠ 0; decide
theorem pNums_err {S : List UInt8} : ∀ {k : Nat} {L : List UInt8} {e : Nat × Int}, pNums S k L = .error e → e.2 ≠ 0
  | 0, L, e, h => by cases h
  | k + 1, L, e, h => by
    rw [pNums] at h
    split at h
    · cases hp : pNums S k (rst L) with
      | error e => rw [hp] at h; cases h; exact pNums_err hp
      | ok q' => rw [hp] at h; cases h
    · rename_i hn
      cases h; exact hn
theorem parse_err {S : List UInt8} {p : Nat} {e : Int} (h : parseC S = .error (p, e)) : e ≠ 0 := by
  unfold parseC at h
  split at h
  · cases h; decide
  split at h
  · cases h; decide
  split at h
  · cases h; decide
  · unfold pAll at h
    split at h
    · rename_i e' hn
      cases h
      exact pNames_err hn
    · split at h
      · rename_i e' hn
        cases h
        exact pNums_err hn
      · unfold pRest at h
        split at h
        · cases h; decide
        · cases h
theorem awake_ok : Ok Tryd.prog 9 [] (vB true) := by
  have c0 := parse_cmd [99, 104, 101, 99, 107, 32, 120, 32, 97, 32, 49, 48, 48] (by decide)
  rw [awake_parse] at c0
  unfold resP cmP at c0
  simp only at c0
  have c0' : Ok Tryd.prog 14 [vS ⟨#[99, 104, 101, 99, 107, 32, 120, 32, 97, 32, 49, 48, 48]⟩] _ := c0
  have hix : ∀ K : PV → Prop, ixP 1 0 K (.sl (encI [100])) = K (.fp [vI 100]) := fun K => ix_enc (a := [100]) (by decide) (by decide)
  refine Ok.of_pwp (by kernel_rfl) Tryd.func9 rfl (by kernel_rfl) (by kernel_rfl) ?_
  simp (implicitDefEqProofs := false) (disch := omega) only [go_sem, reduceCtorEq, Nat.reduceEqDiff, Nat.reduceBEq, ↓reduceIte, Nat.reduceGT, Nat.reduceAdd, Int.reduceEq, Int.reduceLT, Int.reduceLE, Int.reduceNeg, Int.reduceAdd, Int.reduceSub, Int.reduceMul, Int.reduceDiv, Int.reduceMod, Nat.reduceLT, Nat.reduceLeDiff, Nat.reduceMul, Nat.reduceSub, Int.reduceToNat, go_sem, Nat.le_refl, Int.toNat_natCast, Int.toNat_zero, Int.toNat_one, str_eq, sz_bA, tl_bA, encI_len, ↓ix_enc, decide_true, ↓hix, Tryd.results9, List.length_cons, List.length_nil, Nat.zero_add, List.getD_cons_zero, Nat.reduceAdd, Int.cast_ofNat_Int]
  with_reducible refine CallOk.of c0' rfl ?_
  simp (implicitDefEqProofs := false) (disch := omega) only [go_sem, reduceCtorEq, Nat.reduceEqDiff, Nat.reduceBEq, ↓reduceIte, Nat.reduceGT, Nat.reduceAdd, Int.reduceEq, Int.reduceLT, Int.reduceLE, Int.reduceNeg, Int.reduceAdd, Int.reduceSub, Int.reduceMul, Int.reduceDiv, Int.reduceMod, Nat.reduceLT, Nat.reduceLeDiff, Nat.reduceMul, Nat.reduceSub, Int.reduceToNat, go_sem, Nat.le_refl, Int.toNat_natCast, Int.toNat_zero, Int.toNat_one, str_eq, sz_bA, tl_bA, encI_len, ↓ix_enc, decide_true, ↓hix, Tryd.results9, List.length_cons, List.length_nil, Nat.zero_add, List.getD_cons_zero, Nat.reduceAdd, Int.cast_ofNat_Int]
theorem parses_ok (s : ByteArray) (hz : s.size ≤ 140737488351232) : Ok Tryd.prog 7 [vS s] (vB true) := by
  have c0 := awake_ok
  rw [← bA_self s] at hz ⊢
  generalize s.data.toList = S at *
  rw [sz_bA] at hz
  refine Ok.of_pwp (by kernel_rfl) Tryd.func7 rfl (by kernel_rfl) (by kernel_rfl) ?_
  by_cases hs : 1000 < S.length
  · simp (implicitDefEqProofs := false) (disch := omega) only [go_sem, reduceCtorEq, Nat.reduceEqDiff, Nat.reduceBEq, ↓reduceIte, Nat.reduceGT, Nat.reduceAdd, Int.reduceEq, Int.reduceLT, Int.reduceLE, Int.reduceNeg, Int.reduceAdd, Int.reduceSub, Int.reduceMul, Int.reduceDiv, Int.reduceMod, Nat.reduceLT, Nat.reduceLeDiff, Nat.reduceMul, Nat.reduceSub, Int.reduceToNat, go_sem, Nat.le_refl, Int.toNat_natCast, Int.toNat_zero, Int.toNat_one, str_eq, sz_bA, tl_bA, encI_len, ↓ix_enc, decide_true, Tryd.results7]
    with_reducible refine CallOk.of c0 rfl ?_
    simp (implicitDefEqProofs := false) (disch := omega) only [go_sem, reduceCtorEq, Nat.reduceEqDiff, Nat.reduceBEq, ↓reduceIte, Nat.reduceGT, Nat.reduceAdd, Int.reduceEq, Int.reduceLT, Int.reduceLE, Int.reduceNeg, Int.reduceAdd, Int.reduceSub, Int.reduceMul, Int.reduceDiv, Int.reduceMod, Nat.reduceLT, Nat.reduceLeDiff, Nat.reduceMul, Nat.reduceSub, Int.reduceToNat, go_sem, Nat.le_refl, Int.toNat_natCast, Int.toNat_zero, Int.toNat_one, str_eq, sz_bA, tl_bA, encI_len, ↓ix_enc, decide_true, Tryd.results7]
    with_reducible refine CallOk.of c0 rfl ?_
    simp (implicitDefEqProofs := false) (disch := omega) only [go_sem, reduceCtorEq, Nat.reduceEqDiff, Nat.reduceBEq, ↓reduceIte, Nat.reduceGT, Nat.reduceAdd, Int.reduceEq, Int.reduceLT, Int.reduceLE, Int.reduceNeg, Int.reduceAdd, Int.reduceSub, Int.reduceMul, Int.reduceDiv, Int.reduceMod, Nat.reduceLT, Nat.reduceLeDiff, Nat.reduceMul, Nat.reduceSub, Int.reduceToNat, go_sem, Nat.le_refl, Int.toNat_natCast, Int.toNat_zero, Int.toNat_one, str_eq, sz_bA, tl_bA, encI_len, ↓ix_enc, decide_true, Tryd.results7]
  have c1 := parse_cmd S (by omega)
  have c2 := parse_ref S (by omega)
  simp (implicitDefEqProofs := false) (disch := omega) only [go_sem, reduceCtorEq, Nat.reduceEqDiff, Nat.reduceBEq, ↓reduceIte, Nat.reduceGT, Nat.reduceAdd, Int.reduceEq, Int.reduceLT, Int.reduceLE, Int.reduceNeg, Int.reduceAdd, Int.reduceSub, Int.reduceMul, Int.reduceDiv, Int.reduceMod, Nat.reduceLT, Nat.reduceLeDiff, Nat.reduceMul, Nat.reduceSub, Int.reduceToNat, go_sem, Nat.le_refl, Int.toNat_natCast, Int.toNat_zero, Int.toNat_one, str_eq, sz_bA, tl_bA, encI_len, ↓ix_enc, decide_true, Tryd.results7]
  with_reducible refine CallOk.of c0 rfl ?_
  simp (implicitDefEqProofs := false) (disch := omega) only [go_sem, reduceCtorEq, Nat.reduceEqDiff, Nat.reduceBEq, ↓reduceIte, Nat.reduceGT, Nat.reduceAdd, Int.reduceEq, Int.reduceLT, Int.reduceLE, Int.reduceNeg, Int.reduceAdd, Int.reduceSub, Int.reduceMul, Int.reduceDiv, Int.reduceMod, Nat.reduceLT, Nat.reduceLeDiff, Nat.reduceMul, Nat.reduceSub, Int.reduceToNat, go_sem, Nat.le_refl, Int.toNat_natCast, Int.toNat_zero, Int.toNat_one, str_eq, sz_bA, tl_bA, encI_len, ↓ix_enc, decide_true, Tryd.results7]
  with_reducible refine CallOk.of c1 rfl ?_
  cases hp : parseC S with
  | ok c =>
    have hg := parse_good hp
    have c3 := good_ok c (by omega) (by omega) (fun x hx => by have := hg.2.2.2.2 x hx; omega)
    rw [hg.1] at c3
    have c4 := same_self c (by omega) (by omega)
    have c5 := conv_ok c
    rw [hp] at c2
    unfold resP cmP at *
    simp only at c2 c3 c4 c5 ⊢
    simp (implicitDefEqProofs := false) (disch := omega) only [go_sem, reduceCtorEq, Nat.reduceEqDiff, Nat.reduceBEq, ↓reduceIte, Nat.reduceGT, Nat.reduceAdd, Int.reduceEq, Int.reduceLT, Int.reduceLE, Int.reduceNeg, Int.reduceAdd, Int.reduceSub, Int.reduceMul, Int.reduceDiv, Int.reduceMod, Nat.reduceLT, Nat.reduceLeDiff, Nat.reduceMul, Nat.reduceSub, Int.reduceToNat, go_sem, Nat.le_refl, Int.toNat_natCast, Int.toNat_zero, Int.toNat_one, str_eq, sz_bA, tl_bA, encI_len, ↓ix_enc, decide_true, Tryd.results7]
    with_reducible refine CallOk.of c2 rfl ?_
    simp (implicitDefEqProofs := false) (disch := omega) only [go_sem, reduceCtorEq, Nat.reduceEqDiff, Nat.reduceBEq, ↓reduceIte, Nat.reduceGT, Nat.reduceAdd, Int.reduceEq, Int.reduceLT, Int.reduceLE, Int.reduceNeg, Int.reduceAdd, Int.reduceSub, Int.reduceMul, Int.reduceDiv, Int.reduceMod, Nat.reduceLT, Nat.reduceLeDiff, Nat.reduceMul, Nat.reduceSub, Int.reduceToNat, go_sem, Nat.le_refl, Int.toNat_natCast, Int.toNat_zero, Int.toNat_one, str_eq, sz_bA, tl_bA, encI_len, ↓ix_enc, decide_true, Tryd.results7]
    with_reducible refine CallOk.of c5 rfl ?_
    simp (implicitDefEqProofs := false) (disch := omega) only [go_sem, reduceCtorEq, Nat.reduceEqDiff, Nat.reduceBEq, ↓reduceIte, Nat.reduceGT, Nat.reduceAdd, Int.reduceEq, Int.reduceLT, Int.reduceLE, Int.reduceNeg, Int.reduceAdd, Int.reduceSub, Int.reduceMul, Int.reduceDiv, Int.reduceMod, Nat.reduceLT, Nat.reduceLeDiff, Nat.reduceMul, Nat.reduceSub, Int.reduceToNat, go_sem, Nat.le_refl, Int.toNat_natCast, Int.toNat_zero, Int.toNat_one, str_eq, sz_bA, tl_bA, encI_len, ↓ix_enc, decide_true, Tryd.results7]
    with_reducible refine CallOk.of c4 rfl ?_
    simp (implicitDefEqProofs := false) (disch := omega) only [go_sem, reduceCtorEq, Nat.reduceEqDiff, Nat.reduceBEq, ↓reduceIte, Nat.reduceGT, Nat.reduceAdd, Int.reduceEq, Int.reduceLT, Int.reduceLE, Int.reduceNeg, Int.reduceAdd, Int.reduceSub, Int.reduceMul, Int.reduceDiv, Int.reduceMod, Nat.reduceLT, Nat.reduceLeDiff, Nat.reduceMul, Nat.reduceSub, Int.reduceToNat, go_sem, Nat.le_refl, Int.toNat_natCast, Int.toNat_zero, Int.toNat_one, str_eq, sz_bA, tl_bA, encI_len, ↓ix_enc, decide_true, Tryd.results7]
    with_reducible refine CallOk.of c3 rfl ?_
    simp (implicitDefEqProofs := false) (disch := omega) only [go_sem, reduceCtorEq, Nat.reduceEqDiff, Nat.reduceBEq, ↓reduceIte, Nat.reduceGT, Nat.reduceAdd, Int.reduceEq, Int.reduceLT, Int.reduceLE, Int.reduceNeg, Int.reduceAdd, Int.reduceSub, Int.reduceMul, Int.reduceDiv, Int.reduceMod, Nat.reduceLT, Nat.reduceLeDiff, Nat.reduceMul, Nat.reduceSub, Int.reduceToNat, go_sem, Nat.le_refl, Int.toNat_natCast, Int.toNat_zero, Int.toNat_one, str_eq, sz_bA, tl_bA, encI_len, ↓ix_enc, decide_true, Tryd.results7]
  | error e =>
    obtain ⟨p, e⟩ := e
    have c4 := same_self ⟨[], [], [], []⟩ (by decide) (by decide)
    have c5 := conv_ok ⟨[], [], [], []⟩
    have he : e ≠ 0 := parse_err hp
    rw [hp] at c2
    rw [nil_cm] at c4 c5
    unfold resP at *
    simp only at c2 c4 c5 ⊢
    simp (implicitDefEqProofs := false) (disch := omega) only [go_sem, reduceCtorEq, Nat.reduceEqDiff, Nat.reduceBEq, ↓reduceIte, Nat.reduceGT, Nat.reduceAdd, Int.reduceEq, Int.reduceLT, Int.reduceLE, Int.reduceNeg, Int.reduceAdd, Int.reduceSub, Int.reduceMul, Int.reduceDiv, Int.reduceMod, Nat.reduceLT, Nat.reduceLeDiff, Nat.reduceMul, Nat.reduceSub, Int.reduceToNat, go_sem, Nat.le_refl, Int.toNat_natCast, Int.toNat_zero, Int.toNat_one, str_eq, sz_bA, tl_bA, encI_len, ↓ix_enc, decide_true, Tryd.results7, he]
    with_reducible refine CallOk.of c2 rfl ?_
    simp (implicitDefEqProofs := false) (disch := omega) only [go_sem, reduceCtorEq, Nat.reduceEqDiff, Nat.reduceBEq, ↓reduceIte, Nat.reduceGT, Nat.reduceAdd, Int.reduceEq, Int.reduceLT, Int.reduceLE, Int.reduceNeg, Int.reduceAdd, Int.reduceSub, Int.reduceMul, Int.reduceDiv, Int.reduceMod, Nat.reduceLT, Nat.reduceLeDiff, Nat.reduceMul, Nat.reduceSub, Int.reduceToNat, go_sem, Nat.le_refl, Int.toNat_natCast, Int.toNat_zero, Int.toNat_one, str_eq, sz_bA, tl_bA, encI_len, ↓ix_enc, decide_true, Tryd.results7, he]
    with_reducible refine CallOk.of c5 rfl ?_
    simp (implicitDefEqProofs := false) (disch := omega) only [go_sem, reduceCtorEq, Nat.reduceEqDiff, Nat.reduceBEq, ↓reduceIte, Nat.reduceGT, Nat.reduceAdd, Int.reduceEq, Int.reduceLT, Int.reduceLE, Int.reduceNeg, Int.reduceAdd, Int.reduceSub, Int.reduceMul, Int.reduceDiv, Int.reduceMod, Nat.reduceLT, Nat.reduceLeDiff, Nat.reduceMul, Nat.reduceSub, Int.reduceToNat, go_sem, Nat.le_refl, Int.toNat_natCast, Int.toNat_zero, Int.toNat_one, str_eq, sz_bA, tl_bA, encI_len, ↓ix_enc, decide_true, Tryd.results7, he]
    with_reducible refine CallOk.of c4 rfl ?_
    simp (implicitDefEqProofs := false) (disch := omega) only [go_sem, reduceCtorEq, Nat.reduceEqDiff, Nat.reduceBEq, ↓reduceIte, Nat.reduceGT, Nat.reduceAdd, Int.reduceEq, Int.reduceLT, Int.reduceLE, Int.reduceNeg, Int.reduceAdd, Int.reduceSub, Int.reduceMul, Int.reduceDiv, Int.reduceMod, Nat.reduceLT, Nat.reduceLeDiff, Nat.reduceMul, Nat.reduceSub, Int.reduceToNat, go_sem, Nat.le_refl, Int.toNat_natCast, Int.toNat_zero, Int.toNat_one, str_eq, sz_bA, tl_bA, encI_len, ↓ix_enc, decide_true, Tryd.results7, he]
end Go.Proofs.YtegehnojbfedlaaDoor
