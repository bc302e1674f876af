/-
  Chapter 12: each place as often as its weight says: the plain law, the program's law.
-/
import Derived.Test.YtmenmfibpbpblaaF2
open Go Go.Proofs Go.Pw Go.RowKit
namespace Go.Proofs.Ytmenmfibpbpblaa
set_option maxRecDepth 4000
set_option linter.unusedVariables false
set_option linter.unusedSimpArgs false
/-! ### the plain law -/
/-- How often each place has come, of the numbers below n. -/
def cN (l : List Int) (n : Int) : List Int := (List.range l.length).map fun j => min (max (n - sumT l j) 0) (l.getD j 0)
theorem cN_len (l : List Int) (n : Int) : (cN l n).length = l.length := by simp [cN]
theorem cN_get {l : List Int} {n : Int} {j : Nat} (h : j < l.length) : (cN l n).getD j 0 = min (max (n - sumT l j) 0) (l.getD j 0) := by
  simp [cN, List.getD_eq_getElem?_getD, h]
theorem sumT_mono {l : List Int} (k : okT l l.length) : ∀ {i j : Nat}, i ≤ j → j ≤ l.length → sumT l i ≤ sumT l j := fun {i j} h1 h2 => by
  induction j with
  | zero => have : i = 0 := by omega
            subst this; exact Int.le_refl _
  | succ j ih =>
    by_cases e : i = j + 1
    · subst e; exact Int.le_refl _
    · have := ih (by omega) (by omega)
      have := k j (by omega)
      rw [sumT_succ (by omega)]
      omega
theorem wFind_spec {l : List Int} (k : okT l l.length) (n : Int) : ∀ (m i : Nat), m = l.length - i → i ≤ l.length → sumT l i ≤ n → n < sumT l l.length → ∃ a : Nat, a < l.length ∧ wFind (l.drop i) (n - sumT l i) i = a ∧ sumT l a ≤ n ∧ n < sumT l (a + 1)
  | 0, i, hm, hi, h1, h2 => by
    have : i = l.length := by omega
    subst this
    omega
  | m + 1, i, hm, hi, h1, h2 => by
    have hl : i < l.length := by omega
    by_cases hr : n - sumT l i < l.getD i 0
    · exact ⟨i, hl, wFind_lt hl hr i, h1, by rw [sumT_succ hl]; omega⟩
    · have hs := sumT_succ hl
      obtain ⟨a, g1, g2, g3⟩ := wFind_spec k n m (i + 1) (by omega) (by omega) (by omega) h2
      refine ⟨a, g1, ?_, g3⟩
      rw [wFind_ge hl hr, ← g2, hs]
      congr 1 <;> omega
theorem cN_zero {l : List Int} (k : okT l l.length) : cN l 0 = List.replicate l.length 0 := by
  apply List.ext_getElem (by simp [cN])
  intro j h1 h2
  have hj : j < l.length := by simpa [cN] using h1
  have hs := (sumT_range (show j ≤ l.length by omega) (fun i hi => k i (by omega))).1
  have hk := k j hj
  simp only [cN, List.getElem_map, List.getElem_range, List.getElem_replicate]
  omega
theorem cN_step {l : List Int} (k : okT l l.length) {n : Int} {a : Nat} (ha : a < l.length) (h1 : sumT l a ≤ n) (h2 : n < sumT l (a + 1)) : cN l (n + 1) = (cN l n).set a ((cN l n).getD a 0 + 1) := by
  apply List.ext_getElem (by simp [cN])
  intro j g1 g2
  have hj : j < l.length := by simpa [cN] using g1
  have hka := k a ha
  have hkj := k j hj
  have e0 := cN_get (n := n) ha
  generalize (cN l n).getD a 0 = v at *
  rw [List.getElem_set]
  simp only [cN, List.getElem_map, List.getElem_range]
  rw [sumT_succ ha] at h2
  split
  · rename_i e; subst e; omega
  · rename_i e
    rcases Nat.lt_or_gt_of_ne e with h | h
    · have := sumT_mono k (show a + 1 ≤ j by omega) (by omega)
      rw [sumT_succ ha] at this
      omega
    · have := sumT_mono k (show j + 1 ≤ a by omega) (by omega)
      rw [sumT_succ hj] at this
      omega
theorem cN_end {l : List Int} (k : okT l l.length) {j : Nat} (hj : j < l.length) : (cN l (sumT l l.length)).getD j 0 = l.getD j 0 := by
  have := sumT_mono k (show j + 1 ≤ l.length by omega) (Nat.le_refl _)
  have hkj := k j hj
  rw [sumT_succ hj] at this
  rw [cN_get hj]
  omega
/-- The weights that bytes say. -/
def wl (w : List Int) : List Int := w.map fun b => 1 + b % 20
theorem wl_len (w : List Int) : (wl w).length = w.length := by simp [wl]
theorem wl_get {w : List Int} {i : Nat} (h : i < w.length) : (wl w).getD i 0 = 1 + w.getD i 0 % 20 := by simp [wl, List.getD_eq_getElem?_getD, h]
theorem wl_take {w : List Int} {i : Nat} (h : i < w.length) : (wl w).take (i + 1) = (wl w).take i ++ [1 + w.getD i 0 % 20] := by
  have h' : i < (wl w).length := by rw [wl_len]; exact h
  have := wl_get h
  rw [List.getD_eq_getElem?_getD, List.getElem?_eq_getElem h'] at this
  rw [List.take_add_one, List.getElem?_eq_getElem h', ← this]; rfl
theorem wl_ok (w : List Int) : okT (wl w) (wl w).length := fun j hj => by
  rw [wl_len] at hj
  rw [wl_get hj]
  omega
/-! ### what is in memory -/
def fl (l : List Int) : List PV := l.map fun n => vI n
theorem fl_len (l : List Int) : (fl l).length = l.length := by simp [fl]
theorem fl_get {l : List Int} {j : Nat} (h : j < l.length) : (fl l)[j]? = some (vI (l.getD j 0)) := by simp [fl, List.getD_eq_getElem?_getD, h]
theorem fl_set {l : List Int} {j : Nat} {v : Int} (h : j < l.length) : List.take j (fl l) ++ [PV.val (.int .i64 v)] ++ List.drop (j + 1) (fl l) = fl (l.set j v) := by
  unfold fl
  rw [List.map_set, ← List.map_take, ← List.map_drop, List.set_eq_take_append_cons_drop, if_pos (by simpa using h)]
  simp
theorem fl_lt (a b : Nat) (l : List Int) : PV.ltL a b (fl l) = true := by
  unfold fl
  induction l with
  | nil => rfl
  | cons x r ih => simp [PV.ltL, PV.lt, ih]
theorem fl_zero (n : Nat) : ((List.range n).map fun i => [PV.val (.int .i64 0)].getD (i % 1) (.val .nilIface)) = fl (List.replicate n 0) := by
  unfold fl
  apply List.ext_getElem (by simp)
  intro i h1 h2
  simp [Nat.mod_one]
theorem ix_C {a : List Int} {i : Int} {K : PV → Prop} (h0 : 0 ≤ i) (h1 : i < (a.length : Int)) : ixP 1 i K (.sl (encC a)) = K (.fp [vC (a.getD i.toNat 0)]) := by
  have h : i.toNat < a.length := by omega
  have e : (encC a).getD i.toNat [] = [vC (a.getD i.toNat 0)] := by simp [encC, h, List.getD_eq_getElem?_getD]
  simp only [ixP, e, encC_len, List.length_singleton, h0, h1, true_and]
set_option maxHeartbeats 8000000 in
theorem all_in (w : List Int) (h0 : 0 < w.length) (hl : w.length ≤ 10) (hw : ∀ n ∈ w, 0 ≤ n ∧ n ≤ 255) : Ok Try.prog 6 [.sl (encC w)] (vB true) := by
  have hk := wl_ok w
  have hL := wl_len w
  refine Ok.of_pwp (by kernel_rfl) Try.func6 rfl (by kernel_rfl) (by kernel_rfl) ?_
  have h0' : ¬ (w.length : Int) = 0 := by omega
  simp (implicitDefEqProofs := false) (disch := omega) only [go_sem, reduceCtorEq, Nat.reduceEqDiff, Nat.reduceBEq, ↓reduceIte, Nat.reduceGT, Nat.reduceAdd, Int.reduceEq, Int.reduceLT, Int.reduceLE, Int.reduceNeg, Int.reduceAdd, Int.reduceSub, Int.reduceMul, Int.reduceDiv, Int.reduceMod, Nat.reduceLT, Nat.reduceLeDiff, Nat.reduceMul, Nat.reduceSub, Int.reduceToNat, go_sem, Nat.le_refl, encI_len, ↓ix_enc, Int.toNat_natCast, encC_len, ↓ix_C, fl_get, fl_len, fl_set, List.length_set, List.length_singleton, Try.results6, Nat.mul_one]
  with_reducible refine CallOk.of awake_ok rfl ?_
  simp (implicitDefEqProofs := false) (disch := omega) only [go_sem, reduceCtorEq, Nat.reduceEqDiff, Nat.reduceBEq, ↓reduceIte, Nat.reduceGT, Nat.reduceAdd, Int.reduceEq, Int.reduceLT, Int.reduceLE, Int.reduceNeg, Int.reduceAdd, Int.reduceSub, Int.reduceMul, Int.reduceDiv, Int.reduceMod, Nat.reduceLT, Nat.reduceLeDiff, Nat.reduceMul, Nat.reduceSub, Int.reduceToNat, go_sem, Nat.le_refl, encI_len, ↓ix_enc, Int.toNat_natCast, encC_len, ↓ix_C, fl_get, fl_len, fl_set, List.length_set, List.length_singleton, Try.results6, Nat.mul_one]
  refine p_loop (ι := { i : Nat // i ≤ w.length }) (fun i => match i.1 with
      | 0 => ⟨[(27, vI 0), (26, vI w.length), (25, .sl (encC w)), (4, vI 0), (3, vNil)], [], [], 0, 0⟩
      | j + 1 => ⟨[(27, vI (j + 1 : Nat)), (26, vI w.length), (25, .sl (encC w)), (4, vI (sumT (wl w) (j + 1))), (3, .row 10 (encI ((wl w).take (j + 1))))], [], [(10, ⟨3, 1, j + 1⟩)], 0, 11⟩) (fun i => w.length - i.1) ⟨0, Nat.zero_le _⟩ ?_ ?_
  · refine ⟨?_, ?_, ?_, ?_, ?_, ?_, ?_⟩ <;> simp only [mem_cons_, mem_nil_, lkp, hold_eq, b_some, frz_self, frz1_self, frzL_self, frzO_self, frzO_box, frzO_iter, frzL_cons, frzL_nil, frz_agg, frz1_row, frz1_nil, frz1_val, frz1_sl, frz1_rr, frz1_ptr, frz1_ms, frz_val, frz_sl, frz_row, frz_ptr, frz_ms, frz_fp, frz_tup, frz_fn, PV.lt, PV.ltL, PObj.lt, decide_true, Bool.true_and, Bool.and_true, Bool.and_self, Nat.reduceLT, Nat.reduceLeDiff, Nat.reduceEqDiff, if_true, if_false, ↓reduceIte, and_true, true_and, Nat.zero_le, reduceCtorEq, eq_self, decide_eq_true_eq, Int.natCast_zero] <;> try first | omega | ((repeat' (first | exact And.intro rfl (by omega) | (refine And.intro ?_ ?_))) <;> first | rfl | omega | (congr 3; omega) | (congr 2; omega))
  · rintro ⟨i, h1⟩
    cases i with
    | zero =>
      simp only
      obtain ⟨x, hx⟩ : ∃ x, x = w.getD 0 0 := ⟨_, rfl⟩
      have hxr : 0 ≤ x ∧ x ≤ 255 := by
        rw [hx, List.getD_eq_getElem?_getD, List.getElem?_eq_getElem h0]; exact hw _ (List.getElem_mem h0)
      have t20 : x.tmod 20 = x % 20 := Int.tmod_eq_emod_of_nonneg hxr.1
      simp (implicitDefEqProofs := false) (disch := omega) only [go_sem, reduceCtorEq, Nat.reduceEqDiff, Nat.reduceBEq, ↓reduceIte, Nat.reduceGT, Nat.reduceAdd, Int.reduceEq, Int.reduceLT, Int.reduceLE, Int.reduceNeg, Int.reduceAdd, Int.reduceSub, Int.reduceMul, Int.reduceDiv, Int.reduceMod, Nat.reduceLT, Nat.reduceLeDiff, Nat.reduceMul, Nat.reduceSub, Int.reduceToNat, go_sem, Nat.le_refl, encI_len, ↓ix_enc, Int.toNat_natCast, encC_len, ↓ix_C, fl_get, fl_len, fl_set, List.length_set, List.length_singleton, Try.results6, ← hx, t20, Int.toNat_zero]
      refine ⟨⟨0 + 1, h0⟩, by simp only; omega, ?_⟩
      have e1 : sumT (wl w) (0 + 1) = 1 + x % 20 := by rw [sumT_succ (by omega), sumT_zero, wl_get h0, ← hx]; omega
      have e2 : encI ((wl w).take (0 + 1)) = [[vI (1 + x % 20)]] := by rw [wl_take h0, ← hx]; rfl
      simp only [e1, e2]
      refine ⟨?_, ?_, ?_, ?_, ?_, ?_, ?_⟩ <;> simp only [mem_cons_, mem_nil_, lkp, hold_eq, b_some, frz_self, frz1_self, frzL_self, frzO_self, frzO_box, frzO_iter, frzL_cons, frzL_nil, frz_agg, frz1_row, frz1_nil, frz1_val, frz1_sl, frz1_rr, frz1_ptr, frz1_ms, frz_val, frz_sl, frz_row, frz_ptr, frz_ms, frz_fp, frz_tup, frz_fn, PV.lt, PV.ltL, PObj.lt, decide_true, Bool.true_and, Bool.and_true, Bool.and_self, Nat.reduceLT, Nat.reduceLeDiff, Nat.reduceEqDiff, if_true, if_false, ↓reduceIte, and_true, true_and, Nat.zero_le, reduceCtorEq, eq_self, decide_eq_true_eq, Int.natCast_add, Int.natCast_one, Int.zero_add, Int.natCast_zero] <;> try first | omega | ((repeat' (first | exact And.intro rfl (by omega) | (refine And.intro ?_ ?_))) <;> first | rfl | omega | (congr 3; omega) | (congr 2; omega))
    | succ j =>
      simp only
      have hs := sumT_range (show j + 1 ≤ (wl w).length by omega) (fun i hi => hk i (by omega))
      by_cases hi : j + 1 < w.length
      · obtain ⟨x, hx⟩ : ∃ x, x = w.getD (j + 1) 0 := ⟨_, rfl⟩
        have hxr : 0 ≤ x ∧ x ≤ 255 := by
          rw [hx, List.getD_eq_getElem?_getD, List.getElem?_eq_getElem hi]; exact hw _ (List.getElem_mem hi)
        have t20 : x.tmod 20 = x % 20 := Int.tmod_eq_emod_of_nonneg hxr.1
        have hlt : ((wl w).take (j + 1)).length = j + 1 := by rw [List.length_take]; omega
        simp (implicitDefEqProofs := false) (disch := omega) only [go_sem, reduceCtorEq, Nat.reduceEqDiff, Nat.reduceBEq, ↓reduceIte, Nat.reduceGT, Nat.reduceAdd, Int.reduceEq, Int.reduceLT, Int.reduceLE, Int.reduceNeg, Int.reduceAdd, Int.reduceSub, Int.reduceMul, Int.reduceDiv, Int.reduceMod, Nat.reduceLT, Nat.reduceLeDiff, Nat.reduceMul, Nat.reduceSub, Int.reduceToNat, go_sem, Nat.le_refl, encI_len, ↓ix_enc, Int.toNat_natCast, encC_len, ↓ix_C, fl_get, fl_len, fl_set, List.length_set, List.length_singleton, Try.results6, ← hx, t20, hlt]
        refine ⟨⟨j + 1 + 1, hi⟩, by simp only; omega, ?_⟩
        have e1 : sumT (wl w) (j + 1 + 1) = sumT (wl w) (j + 1) + (1 + x % 20) := by rw [sumT_succ (by omega), wl_get hi, ← hx]
        have e2 : encI ((wl w).take (j + 1 + 1)) = encI ((wl w).take (j + 1)) ++ [[vI (1 + x % 20)]] := by rw [wl_take hi, ← hx]; simp [encI]
        simp only [e1, e2]
        refine ⟨?_, ?_, ?_, ?_, ?_, ?_, ?_⟩ <;> simp only [mem_cons_, mem_nil_, lkp, hold_eq, b_some, frz_self, frz1_self, frzL_self, frzO_self, frzO_box, frzO_iter, frzL_cons, frzL_nil, frz_agg, frz1_row, frz1_nil, frz1_val, frz1_sl, frz1_rr, frz1_ptr, frz1_ms, frz_val, frz_sl, frz_row, frz_ptr, frz_ms, frz_fp, frz_tup, frz_fn, PV.lt, PV.ltL, PObj.lt, decide_true, Bool.true_and, Bool.and_true, Bool.and_self, Nat.reduceLT, Nat.reduceLeDiff, Nat.reduceEqDiff, if_true, if_false, ↓reduceIte, and_true, true_and, Nat.zero_le, reduceCtorEq, eq_self, decide_eq_true_eq, Int.natCast_add, Int.natCast_one] <;> try first | omega | ((repeat' (first | exact And.intro rfl (by omega) | (refine And.intro ?_ ?_))) <;> first | rfl | omega | (congr 3; omega) | (congr 2; omega))
      · have hj : j + 1 = w.length := by omega
        obtain ⟨l, hl'⟩ : ∃ l, l = wl w := ⟨_, rfl⟩
        rw [← hl'] at hk hL hs
        have e1 : (wl w).take (j + 1) = l := by rw [hl', hj, ← wl_len, List.take_length]
        rw [hj] at hs ⊢
        rw [hj] at e1
        rw [← hL] at hs ⊢
        rw [← hL] at e1
        rw [e1, ← hl']
        have hcl : wCode l = 0 := wCode_good (by omega) hk (by omega)
        have fz0 := fl_zero l.length
        simp (implicitDefEqProofs := false) (disch := omega) only [go_sem, reduceCtorEq, Nat.reduceEqDiff, Nat.reduceBEq, ↓reduceIte, Nat.reduceGT, Nat.reduceAdd, Int.reduceEq, Int.reduceLT, Int.reduceLE, Int.reduceNeg, Int.reduceAdd, Int.reduceSub, Int.reduceMul, Int.reduceDiv, Int.reduceMod, Nat.reduceLT, Nat.reduceLeDiff, Nat.reduceMul, Nat.reduceSub, Int.reduceToNat, go_sem, Nat.le_refl, encI_len, ↓ix_enc, Int.toNat_natCast, encC_len, ↓ix_C, fl_get, fl_len, fl_set, List.length_set, List.length_singleton, Try.results6, Nat.mul_one]
        obtain ⟨S, hS⟩ : ∃ S, S = sumT l l.length := ⟨_, rfl⟩
        rw [← hS] at hs ⊢
        refine p_loop (ι := { n : Nat // (n : Int) ≤ S }) (fun n => ⟨[(49, vI n.1), (48, vI S), (7, .ms 3 0 l.length l.length), (3, .sl (encI l))], [(3, .box 3 (fl (cN l n.1)))], [], 4, 0⟩) (fun n => S.toNat - n.1) ⟨0, by omega⟩ ?_ ?_
        · simp only [Int.natCast_zero, cN_zero hk]
          rw [fz0]
          refine ⟨?_, ?_, ?_, ?_, ?_, ?_, ?_⟩ <;> simp only [mem_cons_, mem_nil_, lkp, hold_eq, b_some, frz_self, frz1_self, frzL_self, frzO_self, frzO_box, frzO_iter, frzL_cons, frzL_nil, frz_agg, frz1_row, frz1_nil, frz1_val, frz1_sl, frz1_rr, frz1_ptr, frz1_ms, frz_val, frz_sl, frz_row, frz_ptr, frz_ms, frz_fp, frz_tup, frz_fn, PV.lt, PV.ltL, PObj.lt, decide_true, Bool.true_and, Bool.and_true, Bool.and_self, Nat.reduceLT, Nat.reduceLeDiff, Nat.reduceEqDiff, if_true, if_false, ↓reduceIte, and_true, true_and, Nat.zero_le, reduceCtorEq, eq_self, decide_eq_true_eq, fl_lt] <;> try first | omega | ((repeat' (first | exact And.intro rfl (by omega) | (refine And.intro ?_ ?_))) <;> first | rfl | omega | (congr 3; omega) | (congr 2; omega))
        · rintro ⟨n, hn⟩
          simp only
          have hcn := cN_len l n
          by_cases hi2 : (n : Int) < S
          · have c1 := script_H [(n : Int)] (by simp)
            have c2 := weighS_I l [(n : Int)] 0 (by omega) (by simp) (by omega)
            rw [← hS] at c2
            have e3 : scN [(n : Int)] 0 S = n := by
              have t := Int.tmod_eq_of_lt (show (0 : Int) ≤ n by omega) hi2
              simp only [scN, okB_T (show 1 ≤ S by omega) (show S ≤ 4294967296 by omega), if_true, List.length_singleton, Int.toNat_zero, List.getD_cons_zero, t]
              rw [if_neg (by omega), if_neg (by omega)]
            obtain ⟨a, g1, g2, g3, g4⟩ := wFind_spec hk n _ 0 rfl (Nat.zero_le _) (by rw [sumT_zero]; omega) (by omega)
            have e4 : wAt l n = a := by
              rw [wAt, if_pos hcl, ← g2, sumT_zero, List.drop_zero, Int.sub_zero]; rfl
            rw [e3, e4, hcl, if_pos rfl] at c2
            have hca := cN_get (n := n) g1
            have hka := hk a g1
            simp (implicitDefEqProofs := false) (disch := omega) only [go_sem, reduceCtorEq, Nat.reduceEqDiff, Nat.reduceBEq, ↓reduceIte, Nat.reduceGT, Nat.reduceAdd, Int.reduceEq, Int.reduceLT, Int.reduceLE, Int.reduceNeg, Int.reduceAdd, Int.reduceSub, Int.reduceMul, Int.reduceDiv, Int.reduceMod, Nat.reduceLT, Nat.reduceLeDiff, Nat.reduceMul, Nat.reduceSub, Int.reduceToNat, go_sem, Nat.le_refl, encI_len, ↓ix_enc, Int.toNat_natCast, encC_len, ↓ix_C, fl_get, fl_len, fl_set, List.length_set, List.length_singleton, Try.results6, Nat.mul_one]
            refine CallOk.ofI (OkI.ofH (st := ⟨[], _, _, _, _⟩) c1 rfl) rfl rfl rfl rfl ?_
            rintro r st1 ⟨r0, s, ⟨rfl, rfl⟩, rfl, rfl⟩
            simp (implicitDefEqProofs := false) (disch := omega) only [go_sem, reduceCtorEq, Nat.reduceEqDiff, Nat.reduceBEq, ↓reduceIte, Nat.reduceGT, Nat.reduceAdd, Int.reduceEq, Int.reduceLT, Int.reduceLE, Int.reduceNeg, Int.reduceAdd, Int.reduceSub, Int.reduceMul, Int.reduceDiv, Int.reduceMod, Nat.reduceLT, Nat.reduceLeDiff, Nat.reduceMul, Nat.reduceSub, Int.reduceToNat, go_sem, Nat.le_refl, encI_len, ↓ix_enc, Int.toNat_natCast, encC_len, ↓ix_C, fl_get, fl_len, fl_set, List.length_set, List.length_singleton, Try.results6, Nat.mul_one]
            refine CallOk.ofI (OkI.frame1 (st := ⟨[], _, _, _, _⟩) (a := 13) c2 (by simp only; omega) rfl rfl rfl rfl) rfl rfl rfl rfl ?_
            rintro r st1 ⟨r0, s, ⟨rfl, rfl⟩, rfl, rfl⟩
            simp (implicitDefEqProofs := false) (disch := omega) only [go_sem, reduceCtorEq, Nat.reduceEqDiff, Nat.reduceBEq, ↓reduceIte, Nat.reduceGT, Nat.reduceAdd, Int.reduceEq, Int.reduceLT, Int.reduceLE, Int.reduceNeg, Int.reduceAdd, Int.reduceSub, Int.reduceMul, Int.reduceDiv, Int.reduceMod, Nat.reduceLT, Nat.reduceLeDiff, Nat.reduceMul, Nat.reduceSub, Int.reduceToNat, go_sem, Nat.le_refl, encI_len, ↓ix_enc, Int.toNat_natCast, encC_len, ↓ix_C, fl_get, fl_len, fl_set, List.length_set, List.length_singleton, Try.results6, Nat.mul_one]
            refine ⟨⟨n + 1, by omega⟩, by simp only; omega, ?_⟩
            have e5 := cN_step hk g1 g3 g4
            simp only [Int.natCast_add, Int.natCast_one, e5]
            refine ⟨?_, ?_, ?_, ?_, ?_, ?_, ?_⟩ <;> simp only [mem_cons_, mem_nil_, lkp, hold_eq, b_some, frz_self, frz1_self, frzL_self, frzO_self, frzO_box, frzO_iter, frzL_cons, frzL_nil, frz_agg, frz1_row, frz1_nil, frz1_val, frz1_sl, frz1_rr, frz1_ptr, frz1_ms, frz_val, frz_sl, frz_row, frz_ptr, frz_ms, frz_fp, frz_tup, frz_fn, PV.lt, PV.ltL, PObj.lt, decide_true, Bool.true_and, Bool.and_true, Bool.and_self, Nat.reduceLT, Nat.reduceLeDiff, Nat.reduceEqDiff, if_true, if_false, ↓reduceIte, and_true, true_and, Nat.zero_le, reduceCtorEq, eq_self, decide_eq_true_eq, fl_lt] <;> try first | omega | ((repeat' (first | exact And.intro rfl (by omega) | (refine And.intro ?_ ?_))) <;> first | rfl | omega | (congr 3; omega) | (congr 2; omega))
          · have hn' : (n : Int) = S := by omega
            rw [hn']
            simp (implicitDefEqProofs := false) (disch := omega) only [go_sem, reduceCtorEq, Nat.reduceEqDiff, Nat.reduceBEq, ↓reduceIte, Nat.reduceGT, Nat.reduceAdd, Int.reduceEq, Int.reduceLT, Int.reduceLE, Int.reduceNeg, Int.reduceAdd, Int.reduceSub, Int.reduceMul, Int.reduceDiv, Int.reduceMod, Nat.reduceLT, Nat.reduceLeDiff, Nat.reduceMul, Nat.reduceSub, Int.reduceToNat, go_sem, Nat.le_refl, encI_len, ↓ix_enc, Int.toNat_natCast, encC_len, ↓ix_C, fl_get, fl_len, fl_set, List.length_set, List.length_singleton, Try.results6, Nat.mul_one]
            refine p_loop (ι := { i : Nat // i ≤ l.length }) (fun i => ⟨[(81, vI i.1), (80, vI l.length), (7, .ms 3 0 l.length l.length), (3, .sl (encI l))], [(3, .box 3 (fl (cN l S)))], [], 4, 0⟩) (fun i => l.length - i.1) ⟨0, Nat.zero_le _⟩ ?_ ?_
            · refine ⟨?_, ?_, ?_, ?_, ?_, ?_, ?_⟩ <;> simp only [mem_cons_, mem_nil_, lkp, hold_eq, b_some, frz_self, frz1_self, frzL_self, frzO_self, frzO_box, frzO_iter, frzL_cons, frzL_nil, frz_agg, frz1_row, frz1_nil, frz1_val, frz1_sl, frz1_rr, frz1_ptr, frz1_ms, frz_val, frz_sl, frz_row, frz_ptr, frz_ms, frz_fp, frz_tup, frz_fn, PV.lt, PV.ltL, PObj.lt, decide_true, Bool.true_and, Bool.and_true, Bool.and_self, Nat.reduceLT, Nat.reduceLeDiff, Nat.reduceEqDiff, if_true, if_false, ↓reduceIte, and_true, true_and, Nat.zero_le, reduceCtorEq, eq_self, decide_eq_true_eq, fl_lt, Int.natCast_zero] <;> try first | omega | ((repeat' (first | exact And.intro rfl (by omega) | (refine And.intro ?_ ?_))) <;> first | rfl | omega | (congr 3; omega) | (congr 2; omega))
            · rintro ⟨i, hi3⟩
              simp only
              have hcn := cN_len l S
              by_cases hi4 : i < l.length
              · have e6 := cN_end hk hi4
                rw [← hS] at e6
                simp (implicitDefEqProofs := false) (disch := omega) only [go_sem, reduceCtorEq, Nat.reduceEqDiff, Nat.reduceBEq, ↓reduceIte, Nat.reduceGT, Nat.reduceAdd, Int.reduceEq, Int.reduceLT, Int.reduceLE, Int.reduceNeg, Int.reduceAdd, Int.reduceSub, Int.reduceMul, Int.reduceDiv, Int.reduceMod, Nat.reduceLT, Nat.reduceLeDiff, Nat.reduceMul, Nat.reduceSub, Int.reduceToNat, go_sem, Nat.le_refl, encI_len, ↓ix_enc, Int.toNat_natCast, encC_len, ↓ix_C, fl_get, fl_len, fl_set, List.length_set, List.length_singleton, Try.results6, Nat.mul_one, e6]
                refine ⟨⟨i + 1, hi4⟩, by simp only; omega, ?_⟩
                refine ⟨?_, ?_, ?_, ?_, ?_, ?_, ?_⟩ <;> simp only [mem_cons_, mem_nil_, lkp, hold_eq, b_some, frz_self, frz1_self, frzL_self, frzO_self, frzO_box, frzO_iter, frzL_cons, frzL_nil, frz_agg, frz1_row, frz1_nil, frz1_val, frz1_sl, frz1_rr, frz1_ptr, frz1_ms, frz_val, frz_sl, frz_row, frz_ptr, frz_ms, frz_fp, frz_tup, frz_fn, PV.lt, PV.ltL, PObj.lt, decide_true, Bool.true_and, Bool.and_true, Bool.and_self, Nat.reduceLT, Nat.reduceLeDiff, Nat.reduceEqDiff, if_true, if_false, ↓reduceIte, and_true, true_and, Nat.zero_le, reduceCtorEq, eq_self, decide_eq_true_eq, fl_lt, Int.natCast_add, Int.natCast_one] <;> try first | omega | ((repeat' (first | exact And.intro rfl (by omega) | (refine And.intro ?_ ?_))) <;> first | rfl | omega | (congr 3; omega) | (congr 2; omega))
              · simp (implicitDefEqProofs := false) (disch := omega) only [go_sem, reduceCtorEq, Nat.reduceEqDiff, Nat.reduceBEq, ↓reduceIte, Nat.reduceGT, Nat.reduceAdd, Int.reduceEq, Int.reduceLT, Int.reduceLE, Int.reduceNeg, Int.reduceAdd, Int.reduceSub, Int.reduceMul, Int.reduceDiv, Int.reduceMod, Nat.reduceLT, Nat.reduceLeDiff, Nat.reduceMul, Nat.reduceSub, Int.reduceToNat, go_sem, Nat.le_refl, encI_len, ↓ix_enc, Int.toNat_natCast, encC_len, ↓ix_C, fl_get, fl_len, fl_set, List.length_set, List.length_singleton, Try.results6, Nat.mul_one]
end Go.Proofs.Ytmenmfibpbpblaa
