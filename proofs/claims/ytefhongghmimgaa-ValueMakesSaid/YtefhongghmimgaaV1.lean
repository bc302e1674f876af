/-
  Texts: lists of them, their order, slices.BinarySearch over them; value.text.
-/
import Derived.Test.YtefhongghmimgaaKB
import Derived.Sort.Walk0
open Go Go.Proofs Go.Pw Go.RowKit
namespace Go.Proofs.Ytefhongghmimgaa
set_option maxRecDepth 4000
set_option linter.unusedVariables false
set_option linter.unusedSimpArgs false
def encT (l : List ByteArray) : List (List PV) := l.map fun s => [vS s]
theorem encT_len (l : List ByteArray) : (encT l).length = l.length := by simp [encT]
theorem encT_get (l : List ByteArray) (i : Nat) : (encT l).getD i [] = if i < l.length then [vS (l.getD i ByteArray.empty)] else [] := by
  unfold encT
  by_cases h : i < l.length
  · simp [h, List.getD_eq_getElem?_getD]
  · rw [if_neg h, List.getD_eq_getElem?_getD, List.getElem?_eq_none (by simpa using h)]; rfl
theorem encT_take (l : List ByteArray) (n : Nat) : (encT l).take n = encT (l.take n) := by simp [encT, List.map_take]
theorem encT_drop (l : List ByteArray) (n : Nat) : (encT l).drop n = encT (l.drop n) := by simp [encT, List.map_drop]
theorem encT_app (l m : List ByteArray) : encT l ++ encT m = encT (l ++ m) := by simp [encT]
theorem encT_one (s : ByteArray) : [[PV.val (.string s)]] = encT [s] := by simp [encT]
theorem encT_nil : encT [] = [] := rfl
theorem ix_T {a : List ByteArray} {i : Int} {K : PV → Prop} (h0 : 0 ≤ i) (h1 : i < (a.length : Int)) : ixP 1 i K (.sl (encT a)) = K (.fp [vS (a.getD i.toNat ByteArray.empty)]) := by
  have h : i.toNat < a.length := by omega
  simp only [ixP, encT_get, if_pos h, encT_len, List.length_singleton, h0, h1, true_and]
theorem ix_Tr {a : List ByteArray} {i : Int} {k : Nat} {K : PV → Prop} (h0 : 0 ≤ i) (h1 : i < (a.length : Int)) : ixP 1 i K (.row k (encT a)) = K (.fp [vS (a.getD i.toNat ByteArray.empty)]) := by
  have h : i.toNat < a.length := by omega
  simp only [ixP, encT_get, if_pos h, encT_len, List.length_singleton, h0, h1, true_and]
theorem encT_all (l : List ByteArray) : (∀ x ∈ encT l, x.length = 1) = True := eq_true (fun x hx => by
  obtain ⟨n, _, rfl⟩ := List.mem_map.1 hx
  rfl)
theorem fz_encT : ∀ (l : List ByteArray), fzLL (encT l) = some (encT l)
  | [] => rfl
  | x :: r => by
    have ih := fz_encT r
    unfold encT at ih ⊢
    rw [List.map_cons, fzLL, ih]
    rfl
attribute [go_sem ↓ 2000] ix_T ix_Tr
attribute [go_sem] encT_len encT_all fz_encT
/-- Ahead, of texts. -/
def ltT (a b : ByteArray) : Bool := Op.bytesLess a.data.toList b.data.toList
theorem ltT_lt (a b : ByteArray) : ltT a b = true ↔ a.data.toList < b.data.toList := by unfold ltT; rw [bytesLess_eq]; simp
theorem byte_ext {a b : ByteArray} (h : a.data.toList = b.data.toList) : a = b := by cases a; cases b; simp at h; rw [h]
theorem ltT_irr (a : ByteArray) : ltT a a = false := by
  cases h : ltT a a with
  | false => rfl
  | true => exact absurd ((ltT_lt a a).1 h) (List.lt_irrefl _)
theorem ltT_trans {a b c : ByteArray} (h : ltT a b = true) (k : ltT b c = true) : ltT a c = true := (ltT_lt _ _).2 (List.lt_trans ((ltT_lt _ _).1 h) ((ltT_lt _ _).1 k))
theorem ltT_tri (a b : ByteArray) : ltT a b = true ∨ a = b ∨ ltT b a = true := by
  rcases Decidable.em (a.data.toList < b.data.toList) with h | h
  · exact .inl ((ltT_lt _ _).2 h)
  · rcases Decidable.em (b.data.toList < a.data.toList) with k | k
    · exact .inr (.inr ((ltT_lt _ _).2 k))
    · exact .inr (.inl (byte_ext (List.le_antisymm (List.not_lt.1 k) (List.not_lt.1 h))))
theorem ltT_asymm {a b : ByteArray} (h : ltT a b = true) : ltT b a = false := by
  cases k : ltT b a with
  | false => rfl
  | true => have := ltT_trans h k; rw [ltT_irr] at this; cases this
theorem isNaNc_ok (s : ByteArray) : Ok Try.prog 66 [vS s] (vB false) := by
  refine Ok.of_pwp (by kernel_rfl) Try.func66 rfl (by kernel_rfl) (by kernel_rfl) ?_
  simp (implicitDefEqProofs := false) (disch := omega) only [go_sem, reduceCtorEq, Nat.reduceEqDiff, Nat.reduceBEq, ↓reduceIte, Nat.reduceGT, Nat.reduceAdd, Int.reduceEq, Int.reduceLT, Int.reduceLE, Int.reduceNeg, Int.reduceAdd, Int.reduceSub, Int.reduceMul, Int.reduceDiv, Int.reduceMod, Nat.reduceLT, Nat.reduceLeDiff, Nat.reduceMul, Nat.reduceSub, Int.reduceToNat, go_sem, Nat.le_refl, Try.results66]
theorem isNaNs_ok (s : ByteArray) : Ok Try.prog 57 [vS s] (vB false) := by
  refine Ok.of_pwp (by kernel_rfl) Try.func57 rfl (by kernel_rfl) (by kernel_rfl) ?_
  simp (implicitDefEqProofs := false) (disch := omega) only [go_sem, reduceCtorEq, Nat.reduceEqDiff, Nat.reduceBEq, ↓reduceIte, Nat.reduceGT, Nat.reduceAdd, Int.reduceEq, Int.reduceLT, Int.reduceLE, Int.reduceNeg, Int.reduceAdd, Int.reduceSub, Int.reduceMul, Int.reduceDiv, Int.reduceMod, Nat.reduceLT, Nat.reduceLeDiff, Nat.reduceMul, Nat.reduceSub, Int.reduceToNat, go_sem, Nat.le_refl, Try.results57]
theorem lessT_ok (a b : ByteArray) : Ok Try.prog 56 [vS a, vS b] (vB (ltT a b)) := by
  refine Ok.of_pwp (by kernel_rfl) Try.func56 rfl (by kernel_rfl) (by kernel_rfl) ?_
  unfold ltT
  simp (implicitDefEqProofs := false) (disch := omega) only [go_sem, reduceCtorEq, Nat.reduceEqDiff, Nat.reduceBEq, ↓reduceIte, Nat.reduceGT, Nat.reduceAdd, Int.reduceEq, Int.reduceLT, Int.reduceLE, Int.reduceNeg, Int.reduceAdd, Int.reduceSub, Int.reduceMul, Int.reduceDiv, Int.reduceMod, Nat.reduceLT, Nat.reduceLeDiff, Nat.reduceMul, Nat.reduceSub, Int.reduceToNat, go_sem, Nat.le_refl, Try.results56]
  with_reducible refine CallOk.of (isNaNc_ok a) rfl ?_
  simp (implicitDefEqProofs := false) (disch := omega) only [go_sem, reduceCtorEq, Nat.reduceEqDiff, Nat.reduceBEq, ↓reduceIte, Nat.reduceGT, Nat.reduceAdd, Int.reduceEq, Int.reduceLT, Int.reduceLE, Int.reduceNeg, Int.reduceAdd, Int.reduceSub, Int.reduceMul, Int.reduceDiv, Int.reduceMod, Nat.reduceLT, Nat.reduceLeDiff, Nat.reduceMul, Nat.reduceSub, Int.reduceToNat, go_sem, Nat.le_refl, Try.results56]
/-- Where a text stands, or would. -/
def posT (l : List ByteArray) (t : ByteArray) : Nat := (l.takeWhile fun s => ltT s t).length
def foundT (l : List ByteArray) (t : ByteArray) : Bool := decide (posT l t < l.length) && decide (l.getD (posT l t) ByteArray.empty = t)
def SortT (l : List ByteArray) : Prop := l.Pairwise fun a b => ltT a b = true
theorem posT_le (l : List ByteArray) (t : ByteArray) : posT l t ≤ l.length := (List.takeWhile_sublist _).length_le
theorem posT_of {l : List ByteArray} {t : ByteArray} {i : Nat} (hi : i ≤ l.length) (h1 : ∀ k, k < i → ltT (l.getD k ByteArray.empty) t = true) (h2 : i < l.length → ltT (l.getD i ByteArray.empty) t = false) : posT l t = i := by
  unfold posT
  induction l generalizing i with
  | nil => simp at hi ⊢; omega
  | cons x r ih =>
    cases i with
    | zero =>
      have := h2 (by simp)
      simp at this
      rw [List.takeWhile_cons, this]
      rfl
    | succ i =>
      have h0 := h1 0 (by omega)
      simp at h0
      rw [List.takeWhile_cons, h0]
      simp only [if_true, List.length_cons]
      rw [ih (i := i) (by simp at hi; omega) (fun k hk => by have := h1 (k + 1) (by omega); simpa using this) (fun hk => by have := h2 (by simp; omega); simpa using this)]
theorem SortT.get {l : List ByteArray} (h : SortT l) {i j : Nat} (hij : i < j) (hj : j < l.length) : ltT (l.getD i ByteArray.empty) (l.getD j ByteArray.empty) = true := by
  have := List.pairwise_iff_getElem.1 h i j (by omega) hj hij
  rw [List.getD_eq_getElem?_getD, List.getD_eq_getElem?_getD, List.getElem?_eq_getElem (by omega), List.getElem?_eq_getElem hj]
  exact this
set_option maxHeartbeats 4000000 in
theorem bs_ok (l : List ByteArray) (t : ByteArray) (hs : SortT l) (hl : l.length ≤ 1000000000) : Ok Try.prog 39 [.sl (encT l), vS t] (.tup [vI (posT l t), vB (foundT l t)]) := by
  refine Ok.of_pwp (by kernel_rfl) Try.func39 rfl (by kernel_rfl) (by kernel_rfl) ?_
  simp (implicitDefEqProofs := false) (disch := omega) only [go_sem, reduceCtorEq, Nat.reduceEqDiff, Nat.reduceBEq, ↓reduceIte, Nat.reduceGT, Nat.reduceAdd, Int.reduceEq, Int.reduceLT, Int.reduceLE, Int.reduceNeg, Int.reduceAdd, Int.reduceSub, Int.reduceMul, Int.reduceDiv, Int.reduceMod, Nat.reduceLT, Nat.reduceLeDiff, Nat.reduceMul, Nat.reduceSub, Int.reduceToNat, go_sem, Nat.le_refl, Try.results39]
  refine p_loop (ι := { p : Nat × Nat // p.1 ≤ p.2 ∧ p.2 ≤ l.length ∧ (∀ k, k < p.1 → ltT (l.getD k ByteArray.empty) t = true) ∧ (∀ k, p.2 ≤ k → k < l.length → ltT (l.getD k ByteArray.empty) t = false) })
    (fun p => ⟨[(7, vI p.1.1), (8, vI p.1.2), (6, vI l.length), (0, .sl (encT l)), (1, vS t)], [], [], 0, 0⟩) (fun p => p.1.2 - p.1.1) ⟨(0, l.length), Nat.zero_le _, Nat.le_refl _, fun k h => absurd h (Nat.not_lt_zero _), fun k h h' => absurd h' (by simp only at h; omega)⟩ ?_ ?_
  · refine ⟨?_, ?_, ?_, ?_, ?_, ?_, ?_⟩ <;> simp only [mem_cons_, mem_nil_, lkp, hold_eq, b_some, frz_self, frz1_self, frzL_self, frzO_self, frzO_box, frzO_iter, frzL_cons, frzL_nil, frz_agg, frz1_row, frz1_nil, frz1_val, frz1_sl, frz1_rr, frz1_ptr, frz1_ms, frz_val, frz_sl, frz_row, frz_ptr, frz_ms, frz_fp, frz_tup, frz_fn, PV.lt, PV.ltL, PObj.lt, decide_true, Bool.and_true, Bool.and_self, Nat.reduceLT, Nat.reduceLeDiff, Nat.reduceEqDiff, if_true, if_false, ↓reduceIte, and_true, true_and, Nat.zero_le, reduceCtorEq, eq_self, decide_eq_true_eq, Int.natCast_zero] <;> try first | omega | ((repeat' (first | exact And.intro rfl (by omega) | (refine And.intro ?_ ?_))) <;> first | rfl | omega | (congr 3; omega) | (congr 2; omega))
  · rintro ⟨⟨i, j⟩, h1, h2, h3, h4⟩
    simp only at h1 h2 h3 h4 ⊢
    simp (implicitDefEqProofs := false) (disch := omega) only [go_sem, reduceCtorEq, Nat.reduceEqDiff, Nat.reduceBEq, ↓reduceIte, Nat.reduceGT, Nat.reduceAdd, Int.reduceEq, Int.reduceLT, Int.reduceLE, Int.reduceNeg, Int.reduceAdd, Int.reduceSub, Int.reduceMul, Int.reduceDiv, Int.reduceMod, Nat.reduceLT, Nat.reduceLeDiff, Nat.reduceMul, Nat.reduceSub, Int.reduceToNat, go_sem, Nat.le_refl, Try.results39]
    with_reducible refine ifK_split (fun hlt => ?_) (fun hge => ?_)
    · have hw1 : IntKind.wrap .u64 ((i : Int) + (j : Int)) = (i : Int) + (j : Int) := by rw [IntKind.wrap_u64]; omega
      have hd : ((i : Int) + (j : Int)).fdiv (2 ^ min 1 64) = (((i + j) / 2 : Nat) : Int) := by
        have : ((2 : Int) ^ min 1 64) = 2 := by decide
        rw [this, Int.fdiv_eq_ediv_of_nonneg _ (by decide)]
        omega
      have hm1 : (i + j) / 2 < j := by omega
      have hm0 : i ≤ (i + j) / 2 := by omega
      simp (implicitDefEqProofs := false) (disch := omega) only [go_sem, reduceCtorEq, Nat.reduceEqDiff, Nat.reduceBEq, ↓reduceIte, Nat.reduceGT, Nat.reduceAdd, Int.reduceEq, Int.reduceLT, Int.reduceLE, Int.reduceNeg, Int.reduceAdd, Int.reduceSub, Int.reduceMul, Int.reduceDiv, Int.reduceMod, Nat.reduceLT, Nat.reduceLeDiff, Nat.reduceMul, Nat.reduceSub, Int.reduceToNat, go_sem, Nat.le_refl, hw1, hd, Try.results39]
      generalize hq : (i + j) / 2 = m at *
      have hml : m < l.length := by omega
      simp (implicitDefEqProofs := false) (disch := omega) only [go_sem, reduceCtorEq, Nat.reduceEqDiff, Nat.reduceBEq, ↓reduceIte, Nat.reduceGT, Nat.reduceAdd, Int.reduceEq, Int.reduceLT, Int.reduceLE, Int.reduceNeg, Int.reduceAdd, Int.reduceSub, Int.reduceMul, Int.reduceDiv, Int.reduceMod, Nat.reduceLT, Nat.reduceLeDiff, Nat.reduceMul, Nat.reduceSub, Int.reduceToNat, go_sem, Nat.le_refl, hw1, hd, Try.results39]
      with_reducible refine CallOk.of (lessT_ok (l.getD m ByteArray.empty) t) rfl ?_
      simp (implicitDefEqProofs := false) (disch := omega) only [go_sem, reduceCtorEq, Nat.reduceEqDiff, Nat.reduceBEq, ↓reduceIte, Nat.reduceGT, Nat.reduceAdd, Int.reduceEq, Int.reduceLT, Int.reduceLE, Int.reduceNeg, Int.reduceAdd, Int.reduceSub, Int.reduceMul, Int.reduceDiv, Int.reduceMod, Nat.reduceLT, Nat.reduceLeDiff, Nat.reduceMul, Nat.reduceSub, Int.reduceToNat, go_sem, Nat.le_refl, Try.results39]
      cases hc : ltT (l.getD m ByteArray.empty) t with
      | true =>
        simp (implicitDefEqProofs := false) (disch := omega) only [go_sem, reduceCtorEq, Nat.reduceEqDiff, Nat.reduceBEq, ↓reduceIte, Nat.reduceGT, Nat.reduceAdd, Int.reduceEq, Int.reduceLT, Int.reduceLE, Int.reduceNeg, Int.reduceAdd, Int.reduceSub, Int.reduceMul, Int.reduceDiv, Int.reduceMod, Nat.reduceLT, Nat.reduceLeDiff, Nat.reduceMul, Nat.reduceSub, Int.reduceToNat, go_sem, Nat.le_refl, Try.results39]
        refine ⟨⟨(m + 1, j), by simp only; omega, h2, fun k hk => ?_, h4⟩, by simp only; omega, ?_⟩
        · simp only at hk
          rcases Nat.lt_or_eq_of_le (Nat.le_of_lt_succ hk) with h | h
          · exact ltT_trans (hs.get h hml) hc
          · rw [h]; exact hc
        · refine ⟨?_, ?_, ?_, ?_, ?_, ?_, ?_⟩ <;> simp only [mem_cons_, mem_nil_, lkp, hold_eq, b_some, frz_self, frz1_self, frzL_self, frzO_self, frzO_box, frzO_iter, frzL_cons, frzL_nil, frz_agg, frz1_row, frz1_nil, frz1_val, frz1_sl, frz1_rr, frz1_ptr, frz1_ms, frz_val, frz_sl, frz_row, frz_ptr, frz_ms, frz_fp, frz_tup, frz_fn, PV.lt, PV.ltL, PObj.lt, decide_true, Bool.and_true, Bool.and_self, Nat.reduceLT, Nat.reduceLeDiff, Nat.reduceEqDiff, if_true, if_false, ↓reduceIte, and_true, true_and, Nat.zero_le, reduceCtorEq, eq_self, decide_eq_true_eq, Int.natCast_add, Int.natCast_one] <;> try first | omega | ((repeat' (first | exact And.intro rfl (by omega) | (refine And.intro ?_ ?_))) <;> first | rfl | omega | (congr 3; omega) | (congr 2; omega))
      | false =>
        simp (implicitDefEqProofs := false) (disch := omega) only [go_sem, reduceCtorEq, Nat.reduceEqDiff, Nat.reduceBEq, ↓reduceIte, Nat.reduceGT, Nat.reduceAdd, Int.reduceEq, Int.reduceLT, Int.reduceLE, Int.reduceNeg, Int.reduceAdd, Int.reduceSub, Int.reduceMul, Int.reduceDiv, Int.reduceMod, Nat.reduceLT, Nat.reduceLeDiff, Nat.reduceMul, Nat.reduceSub, Int.reduceToNat, go_sem, Nat.le_refl, Try.results39]
        refine ⟨⟨(i, m), by simp only; omega, by simp only; omega, h3, fun k hk hkl => ?_⟩, by simp only; omega, ?_⟩
        · simp only at hk
          rcases Nat.lt_or_eq_of_le hk with h | h
          · cases hx : ltT (l.getD k ByteArray.empty) t with
            | false => rfl
            | true => rw [ltT_trans (hs.get h hkl) hx] at hc; cases hc
          · rw [← h]; exact hc
        · refine ⟨?_, ?_, ?_, ?_, ?_, ?_, ?_⟩ <;> simp only [mem_cons_, mem_nil_, lkp, hold_eq, b_some, frz_self, frz1_self, frzL_self, frzO_self, frzO_box, frzO_iter, frzL_cons, frzL_nil, frz_agg, frz1_row, frz1_nil, frz1_val, frz1_sl, frz1_rr, frz1_ptr, frz1_ms, frz_val, frz_sl, frz_row, frz_ptr, frz_ms, frz_fp, frz_tup, frz_fn, PV.lt, PV.ltL, PObj.lt, decide_true, Bool.and_true, Bool.and_self, Nat.reduceLT, Nat.reduceLeDiff, Nat.reduceEqDiff, if_true, if_false, ↓reduceIte, and_true, true_and, Nat.zero_le, reduceCtorEq, eq_self, decide_eq_true_eq, ] <;> try first | omega | ((repeat' (first | exact And.intro rfl (by omega) | (refine And.intro ?_ ?_))) <;> first | rfl | omega | (congr 3; omega) | (congr 2; omega))
    · have hij : i = j := by omega
      subst hij
      have hp : posT l t = i := posT_of h2 h3 (fun h => h4 i (Nat.le_refl _) h)
      unfold foundT
      rw [hp]
      by_cases hi : i < l.length
      · simp (implicitDefEqProofs := false) (disch := omega) only [go_sem, reduceCtorEq, Nat.reduceEqDiff, Nat.reduceBEq, ↓reduceIte, Nat.reduceGT, Nat.reduceAdd, Int.reduceEq, Int.reduceLT, Int.reduceLE, Int.reduceNeg, Int.reduceAdd, Int.reduceSub, Int.reduceMul, Int.reduceDiv, Int.reduceMod, Nat.reduceLT, Nat.reduceLeDiff, Nat.reduceMul, Nat.reduceSub, Int.reduceToNat, go_sem, Nat.le_refl, Try.results39]
        by_cases he : l.getD i ByteArray.empty = t
        · rw [he, decide_eq_true hi, decide_eq_true rfl, Bool.and_self]
          simp (implicitDefEqProofs := false) (disch := omega) only [go_sem, reduceCtorEq, Nat.reduceEqDiff, Nat.reduceBEq, ↓reduceIte, Nat.reduceGT, Nat.reduceAdd, Int.reduceEq, Int.reduceLT, Int.reduceLE, Int.reduceNeg, Int.reduceAdd, Int.reduceSub, Int.reduceMul, Int.reduceDiv, Int.reduceMod, Nat.reduceLT, Nat.reduceLeDiff, Nat.reduceMul, Nat.reduceSub, Int.reduceToNat, go_sem, Nat.le_refl, Try.results39]
        · rw [decide_eq_true hi, decide_eq_false he, Bool.and_false]
          simp (implicitDefEqProofs := false) (disch := omega) only [go_sem, reduceCtorEq, Nat.reduceEqDiff, Nat.reduceBEq, ↓reduceIte, Nat.reduceGT, Nat.reduceAdd, Int.reduceEq, Int.reduceLT, Int.reduceLE, Int.reduceNeg, Int.reduceAdd, Int.reduceSub, Int.reduceMul, Int.reduceDiv, Int.reduceMod, Nat.reduceLT, Nat.reduceLeDiff, Nat.reduceMul, Nat.reduceSub, Int.reduceToNat, go_sem, Nat.le_refl, Try.results39]
          with_reducible refine CallOk.of (isNaNs_ok (l.getD i ByteArray.empty)) rfl ?_
          simp (implicitDefEqProofs := false) (disch := omega) only [go_sem, reduceCtorEq, Nat.reduceEqDiff, Nat.reduceBEq, ↓reduceIte, Nat.reduceGT, Nat.reduceAdd, Int.reduceEq, Int.reduceLT, Int.reduceLE, Int.reduceNeg, Int.reduceAdd, Int.reduceSub, Int.reduceMul, Int.reduceDiv, Int.reduceMod, Nat.reduceLT, Nat.reduceLeDiff, Nat.reduceMul, Nat.reduceSub, Int.reduceToNat, go_sem, Nat.le_refl, Try.results39]
      · rw [decide_eq_false hi, Bool.false_and]
        simp (implicitDefEqProofs := false) (disch := omega) only [go_sem, reduceCtorEq, Nat.reduceEqDiff, Nat.reduceBEq, ↓reduceIte, Nat.reduceGT, Nat.reduceAdd, Int.reduceEq, Int.reduceLT, Int.reduceLE, Int.reduceNeg, Int.reduceAdd, Int.reduceSub, Int.reduceMul, Int.reduceDiv, Int.reduceMod, Nat.reduceLT, Nat.reduceLeDiff, Nat.reduceMul, Nat.reduceSub, Int.reduceToNat, go_sem, Nat.le_refl, Try.results39]
end Go.Proofs.Ytefhongghmimgaa
