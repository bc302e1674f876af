/-
  A number's text, by the document.
-/
import Derived.Test.YtegehnojbfedlaaDoorWR
open Go Go.Proofs Go.Pw
namespace Go.Proofs.YtegehnojbfedlaaDoor
set_option maxRecDepth 4000
set_option linter.unusedVariables false
set_option linter.unusedSimpArgs false
/-- The last so many digits. -/
def padD : Nat → Nat → List UInt8
  | _, 0 => []
  | n, k + 1 => padD (n / 10) k ++ [UInt8.ofNat (48 + n % 10)]
theorem padD_front : ∀ (k n : Nat), padD n (k + 1) = UInt8.ofNat (48 + n / 10 ^ k % 10) :: padD n k
  | 0, n => by simp [padD]
  | k + 1, n => by
    rw [padD, padD_front k (n / 10), padD, List.cons_append, Nat.div_div_eq_div_mul, Nat.pow_succ, Nat.mul_comm 10]
theorem padD_len : ∀ (k n : Nat), (padD n k).length = k
  | 0, _ => rfl
  | k + 1, n => by simp [padD, padD_len k]
theorem decD_pad (n : Nat) : Lib.decDigits n = padD n (Lib.nDigits n) := by
  induction n using Nat.strongRecOn with
  | _ n ih =>
    by_cases h : n < 10
    · rw [Lib.decDigits, dif_pos h, Lib.nDigits_small h]
      simp [padD, Nat.mod_eq_of_lt h]
    · rw [Lib.decDigits, dif_neg h, Lib.nDigits_big h, padD, ih (n / 10) (by omega)]
theorem nD_gt : ∀ (t n : Nat), 0 < n → (t < Lib.nDigits n ↔ 10 ^ t ≤ n)
  | 0, n, h => by
    have := Lib.nDigits_pos n
    simp; omega
  | t + 1, n, h => by
    by_cases hn : n < 10
    · rw [Lib.nDigits_small hn, Nat.pow_succ]
      have : 0 < 10 ^ t := Nat.pow_pos (by decide)
      omega
    · rw [Lib.nDigits_big hn, Nat.pow_succ, ← Nat.le_div_iff_mul_le (by decide), ← nD_gt t (n / 10) (by omega)]
      omega
theorem figs_get : ∀ (i n : Nat), (figs n).getD i 0 = ((n / 10000 ^ i % 10000 : Nat) : Int)
  | i, n => by
    by_cases h : n = 0
    · subst h; rw [figs_zero]; simp
    · rw [figs_step n h]
      cases i with
      | zero => simp
      | succ i =>
        rw [List.getD_cons_succ, figs_get i (n / 10000), Nat.div_div_eq_div_mul, Nat.pow_succ, Nat.mul_comm 10000]
theorem p4 (i : Nat) : 10000 ^ i = 10 ^ (4 * i) := by rw [Nat.pow_mul]
/-- More figures: more digits. -/
theorem figs_more {n i : Nat} (h : i < (figs n).length) : 10 ^ (4 * i) ≤ n := by
  have hn : n ≠ 0 := fun e => by subst e; rw [figs_zero] at h; cases h
  have g := figs_len_ge n hn
  have : (10000 : Int) ^ i ≤ 10000 ^ ((figs n).length - 1) := pow_le' (by omega)
  have e : ((10000 ^ i : Nat) : Int) = (10000 : Int) ^ i := by simp
  rw [← p4]
  omega
theorem figs_top {n : Nat} : n < 10 ^ (4 * (figs n).length) := by
  have h := valF_fg (figs_digs n)
  rw [figs_val] at h
  unfold Fg at h
  rw [← p4]
  simpa using h
/-- The digits behind a place: the text so far. -/
def tT (n t : Nat) : ByteArray := ⟨(padD n (min t (Lib.nDigits n))).toArray⟩
theorem tT_end {n t : Nat} (h : Lib.nDigits n ≤ t) : tT n t = ⟨(Lib.decDigits n).toArray⟩ := by
  unfold tT
  rw [Nat.min_eq_right h, decD_pad]
theorem tT_same {n t : Nat} (h : Lib.nDigits n ≤ t) : tT n (t + 1) = tT n t := by
  rw [tT_end h, tT_end (by omega)]
theorem tT_size (n t : Nat) : (tT n t).size = min t (Lib.nDigits n) := by
  show (padD n _).toArray.size = _
  simp [padD_len]
/-- A digit. -/
def oneD (d : Nat) : ByteArray := (⟨#[48, 49, 50, 51, 52, 53, 54, 55, 56, 57]⟩ : ByteArray).extract d (d + 1)
theorem oneD_eq {d : Nat} (h : d < 10) : oneD d = ⟨#[UInt8.ofNat (48 + d)]⟩ := by
  match d, h with
  | 0, _ => rfl
  | 1, _ => rfl
  | 2, _ => rfl
  | 3, _ => rfl
  | 4, _ => rfl
  | 5, _ => rfl
  | 6, _ => rfl
  | 7, _ => rfl
  | 8, _ => rfl
  | 9, _ => rfl
theorem tT_step {n t : Nat} (h : t < Lib.nDigits n) : oneD (n / 10 ^ t % 10) ++ tT n t = tT n (t + 1) := by
  rw [oneD_eq (Nat.mod_lt _ (by decide))]
  unfold tT
  rw [Nat.min_eq_left (by omega), Nat.min_eq_left (by omega), padD_front]
  apply ByteArray.ext
  simp
theorem sOf_zero : sOf 0 = ⟨#[48]⟩ := by
  unfold sOf Lib.itoa
  rw [if_neg (by decide), Int.toNat_zero, decD_pad, Lib.nDigits_small (by decide)]
  rfl
theorem sOf_pos {n : Int} (h : 0 ≤ n) : sOf n = ⟨(Lib.decDigits n.natAbs).toArray⟩ := by
  unfold sOf Lib.itoa
  rw [if_neg (by omega), show n.toNat = n.natAbs by omega]
theorem sOf_neg {n : Int} (h : n < 0) : (⟨#[45]⟩ : ByteArray) ++ ⟨(Lib.decDigits n.natAbs).toArray⟩ = sOf n := by
  unfold sOf Lib.itoa
  rw [if_pos h]
  apply ByteArray.ext
  simp
set_option maxHeartbeats 4000000 in
theorem rtext_ok (n : Int) (hn : fits n) : Ok Tryd.prog 17 [repN n] (vS (sOf n)) := by
  obtain ⟨F, hF⟩ : ∃ F, F = figs n.natAbs := ⟨_, rfl⟩
  obtain ⟨N, hN⟩ : ∃ N, N = n.natAbs := ⟨_, rfl⟩
  rw [← hN] at hF
  have hlen : F.length ≤ 5 := by rw [hF]; exact figs_len 5 _ (by rw [hN]; exact Fg.of_fits hn)
  have eq0 : repN n = .agg [vB (decide (n < 0)), .sl (encI F)] := by rw [hF, hN]; rfl
  rw [eq0]
  refine Ok.of_pwp (by kernel_rfl) Tryd.func17 rfl (by kernel_rfl) (by kernel_rfl) ?_
  by_cases h0 : N = 0
  · have hn0 : n = 0 := by omega
    subst hn0
    have : F = [] := by rw [hF, h0, figs_zero]
    subst this
    rw [sOf_zero]
    simp (implicitDefEqProofs := false) (disch := omega) only [go_sem, reduceCtorEq, Nat.reduceEqDiff, Nat.reduceBEq, ↓reduceIte, Nat.reduceGT, Nat.reduceAdd, Int.reduceEq, Int.reduceLT, Int.reduceLE, Int.reduceNeg, Int.reduceAdd, Int.reduceSub, Int.reduceMul, Int.reduceDiv, Int.reduceMod, Nat.reduceLT, Nat.reduceLeDiff, Nat.reduceMul, Nat.reduceSub, Int.reduceToNat, go_sem, Nat.le_refl, Int.toNat_natCast, Int.toNat_zero, Int.toNat_one, encI_len, ↓ix_enc, Tryd.results17]
  have hl0 : 0 < F.length := by rw [hF]; exact (figs_pos N).2 (by omega)
  have hl0' : ¬ (F.length : Int) = 0 := by omega
  have hD : Lib.nDigits N ≤ 4 * F.length := by
    have h1 := figs_top (n := N)
    rw [← hF] at h1
    have h2 := nD_gt (4 * F.length) N (by omega)
    omega
  simp (implicitDefEqProofs := false) (disch := omega) only [go_sem, reduceCtorEq, Nat.reduceEqDiff, Nat.reduceBEq, ↓reduceIte, Nat.reduceGT, Nat.reduceAdd, Int.reduceEq, Int.reduceLT, Int.reduceLE, Int.reduceNeg, Int.reduceAdd, Int.reduceSub, Int.reduceMul, Int.reduceDiv, Int.reduceMod, Nat.reduceLT, Nat.reduceLeDiff, Nat.reduceMul, Nat.reduceSub, Int.reduceToNat, go_sem, Nat.le_refl, Int.toNat_natCast, Int.toNat_zero, Int.toNat_one, encI_len, ↓ix_enc, Tryd.results17]
  refine p_loop (ι := { i : Nat // i ≤ F.length }) (fun i => ⟨[(14, vI i.1), (13, vI F.length), (3, vS (tT N (4 * i.1))), (1, .ptr 0 0)], [(0, .box 44 [vB (decide (n < 0)), .sl (encI F)])], [], 1, 0⟩) (fun i => F.length - i.1) ⟨0, Nat.zero_le _⟩ ?_ ?_
  · have e : tT N (4 * 0) = ⟨#[]⟩ := by unfold tT; rw [Nat.mul_zero, Nat.zero_min]; rfl
    rw [e]
    refine ⟨?_, ?_, ?_, ?_, ?_, ?_, ?_⟩ <;> simp only [mem_cons_, mem_nil_, lkp, hold_eq, b_some, frz_self, frz1_self, frzL_self, frzO_self, frzO_box, frzO_iter, frzL_cons, frzL_nil, frz_agg, frz1_row, frz1_nil, frz1_val, frz1_sl, frz1_rr, frz1_ptr, frz1_ms, frz_val, frz_sl, frz_row, frz_ptr, frz_ms, frz_fp, frz_tup, frz_fn, PV.lt, PV.ltL, PObj.lt, decide_true, Bool.true_and, Bool.and_true, Bool.and_self, Nat.reduceLT, Nat.reduceLeDiff, Nat.reduceEqDiff, if_true, if_false, ↓reduceIte, and_true, true_and, Nat.zero_le, reduceCtorEq, eq_self, decide_eq_true_eq, Int.natCast_zero] <;> try first | omega | ((repeat' (first | exact And.intro rfl (by omega) | (refine And.intro ?_ ?_))) <;> first | rfl | omega | (congr 3; omega) | (congr 2; omega))
  · rintro ⟨i, hi⟩
    simp only
    by_cases hil : i < F.length
    · have ef : F.getD i 0 = ((N / 10 ^ (4 * i + 0) % 10 ^ (4 - 0) : Nat) : Int) := by rw [hF, figs_get, p4, Nat.add_zero]
      have efr : N / 10 ^ (4 * i + 0) % 10 ^ (4 - 0) < 10000 := Nat.mod_lt _ (by decide)
      simp (implicitDefEqProofs := false) (disch := omega) only [go_sem, reduceCtorEq, Nat.reduceEqDiff, Nat.reduceBEq, ↓reduceIte, Nat.reduceGT, Nat.reduceAdd, Int.reduceEq, Int.reduceLT, Int.reduceLE, Int.reduceNeg, Int.reduceAdd, Int.reduceSub, Int.reduceMul, Int.reduceDiv, Int.reduceMod, Nat.reduceLT, Nat.reduceLeDiff, Nat.reduceMul, Nat.reduceSub, Int.reduceToNat, go_sem, Nat.le_refl, Int.toNat_natCast, Int.toNat_zero, Int.toNat_one, encI_len, ↓ix_enc, Tryd.results17]
      rw [ef]
      refine p_loop (ι := { k : Nat // k ≤ 4 }) (fun k => ⟨[(6, vI k.1), (5, vI ((N / 10 ^ (4 * i + k.1) % 10 ^ (4 - k.1) : Nat) : Int)), (4, vI i), (3, vS (tT N (4 * i + k.1))), (14, vI i), (13, vI F.length), (1, .ptr 0 0)], [(0, .box 44 [vB (decide (n < 0)), .sl (encI F)])], [], 1, 0⟩) (fun k => 4 - k.1) ⟨0, by decide⟩ ?_ ?_
      · refine ⟨?_, ?_, ?_, ?_, ?_, ?_, ?_⟩ <;> simp only [mem_cons_, mem_nil_, lkp, hold_eq, b_some, frz_self, frz1_self, frzL_self, frzO_self, frzO_box, frzO_iter, frzL_cons, frzL_nil, frz_agg, frz1_row, frz1_nil, frz1_val, frz1_sl, frz1_rr, frz1_ptr, frz1_ms, frz_val, frz_sl, frz_row, frz_ptr, frz_ms, frz_fp, frz_tup, frz_fn, PV.lt, PV.ltL, PObj.lt, decide_true, Bool.true_and, Bool.and_true, Bool.and_self, Nat.reduceLT, Nat.reduceLeDiff, Nat.reduceEqDiff, if_true, if_false, ↓reduceIte, and_true, true_and, Nat.zero_le, reduceCtorEq, eq_self, decide_eq_true_eq, Int.natCast_zero, Nat.add_zero] <;> try first | omega | ((repeat' (first | exact And.intro rfl (by omega) | (refine And.intro ?_ ?_))) <;> first | rfl | omega | (congr 3; omega) | (congr 2; omega))
      · rintro ⟨k, hk⟩
        simp only
        by_cases hk4 : k < 4
        · obtain ⟨f, hf⟩ : ∃ f, f = N / 10 ^ (4 * i + k) % 10 ^ (4 - k) := ⟨_, rfl⟩
          have hp : 10 ^ (4 - k) = 10 * 10 ^ (4 - (k + 1)) := by rw [show 4 - k = (4 - (k + 1)) + 1 by omega, Nat.pow_succ]; omega
          have hp4 : 10 ^ (4 - k) ≤ 10 ^ 4 := Nat.pow_le_pow_right (by decide) (by omega)
          have hp0 : 0 < 10 ^ (4 - k) := Nat.pow_pos (by decide)
          have hfr : f < 10 ^ (4 - k) := by rw [hf]; exact Nat.mod_lt _ hp0
          have hfr' : f < 10000 := Nat.lt_of_lt_of_le hfr hp4
          have hm : (f : Int).tmod 10 = ((f % 10 : Nat) : Int) := by rw [Int.tmod_eq_emod_of_nonneg (by omega)]; omega
          have hd : (f : Int).tdiv 10 = ((f / 10 : Nat) : Int) := by rw [Int.tdiv_eq_ediv_of_nonneg (by omega)]; omega
          have hd2 : f / 10 = N / 10 ^ (4 * i + (k + 1)) % 10 ^ (4 - (k + 1)) := by
            rw [hf, hp, Nat.mod_mul_right_div_self, Nat.div_div_eq_div_mul, ← Nat.pow_succ]; rfl
          have hm2 : f % 10 = N / 10 ^ (4 * i + k) % 10 := by
            rw [hf, hp, Nat.mod_mul_right_mod]
          have hm9 : f % 10 < 10 := Nat.mod_lt _ (by decide)
          have e3 : (((f % 10 : Nat) : Int) + 1).toNat = f % 10 + 1 := by omega
          have hts : (tT N (4 * i + k)).size ≤ 1000 := by rw [tT_size]; omega
          rw [← hf]
          by_cases hx : 0 < f
          · have ht : 4 * i + k < Lib.nDigits N := by
              rw [nD_gt _ _ (by omega)]
              apply Decidable.byContradiction
              intro hc
              rw [Nat.div_eq_of_lt (by omega), Nat.zero_mod] at hf
              omega
            have e4 : (⟨#[48, 49, 50, 51, 52, 53, 54, 55, 56, 57]⟩ : ByteArray).extract (f % 10) (f % 10 + 1) ++ tT N (4 * i + k) = tT N (4 * i + (k + 1)) := by rw [hm2]; exact tT_step ht
            simp (implicitDefEqProofs := false) (disch := omega) only [go_sem, reduceCtorEq, Nat.reduceEqDiff, Nat.reduceBEq, ↓reduceIte, Nat.reduceGT, Nat.reduceAdd, Int.reduceEq, Int.reduceLT, Int.reduceLE, Int.reduceNeg, Int.reduceAdd, Int.reduceSub, Int.reduceMul, Int.reduceDiv, Int.reduceMod, Nat.reduceLT, Nat.reduceLeDiff, Nat.reduceMul, Nat.reduceSub, Int.reduceToNat, go_sem, Nat.le_refl, Int.toNat_natCast, Int.toNat_zero, Int.toNat_one, encI_len, ↓ix_enc, Tryd.results17, hm, hd, e3]
            refine ⟨by simp only [List.size_toArray, List.length_cons, List.length_nil]; omega, by rw [ByteArray.size_extract]; omega, ⟨k + 1, by omega⟩, by show 4 - (k + 1) < 4 - k; omega, ?_⟩
            rw [e4, hd2]
            refine ⟨?_, ?_, ?_, ?_, ?_, ?_, ?_⟩ <;> simp only [mem_cons_, mem_nil_, lkp, hold_eq, b_some, frz_self, frz1_self, frzL_self, frzO_self, frzO_box, frzO_iter, frzL_cons, frzL_nil, frz_agg, frz1_row, frz1_nil, frz1_val, frz1_sl, frz1_rr, frz1_ptr, frz1_ms, frz_val, frz_sl, frz_row, frz_ptr, frz_ms, frz_fp, frz_tup, frz_fn, PV.lt, PV.ltL, PObj.lt, decide_true, Bool.true_and, Bool.and_true, Bool.and_self, Nat.reduceLT, Nat.reduceLeDiff, Nat.reduceEqDiff, if_true, if_false, ↓reduceIte, and_true, true_and, Nat.zero_le, reduceCtorEq, eq_self, decide_eq_true_eq, Int.natCast_add, Int.cast_ofNat_Int] <;> try first | omega | ((repeat' (first | exact And.intro rfl (by omega) | (refine And.intro ?_ ?_))) <;> first | rfl | omega | (congr 3; omega) | (congr 2; omega))
          · have hf0 : f = 0 := by omega
            by_cases hy : i + 1 < F.length
            · have ht : 4 * i + k < Lib.nDigits N := by
                rw [nD_gt _ _ (by omega)]
                have h1 := figs_more (n := N) (i := i + 1) (by rw [← hF]; exact hy)
                exact Nat.le_trans (Nat.pow_le_pow_right (by decide) (by omega)) h1
              have e4 : (⟨#[48, 49, 50, 51, 52, 53, 54, 55, 56, 57]⟩ : ByteArray).extract (f % 10) (f % 10 + 1) ++ tT N (4 * i + k) = tT N (4 * i + (k + 1)) := by rw [hm2]; exact tT_step ht
              simp (implicitDefEqProofs := false) (disch := omega) only [go_sem, reduceCtorEq, Nat.reduceEqDiff, Nat.reduceBEq, ↓reduceIte, Nat.reduceGT, Nat.reduceAdd, Int.reduceEq, Int.reduceLT, Int.reduceLE, Int.reduceNeg, Int.reduceAdd, Int.reduceSub, Int.reduceMul, Int.reduceDiv, Int.reduceMod, Nat.reduceLT, Nat.reduceLeDiff, Nat.reduceMul, Nat.reduceSub, Int.reduceToNat, go_sem, Nat.le_refl, Int.toNat_natCast, Int.toNat_zero, Int.toNat_one, encI_len, ↓ix_enc, Tryd.results17, hm, hd, e3, hx, hy]
              refine ⟨by simp only [List.size_toArray, List.length_cons, List.length_nil]; omega, by rw [ByteArray.size_extract]; omega, ⟨k + 1, by omega⟩, by show 4 - (k + 1) < 4 - k; omega, ?_⟩
              rw [e4, hd2]
              refine ⟨?_, ?_, ?_, ?_, ?_, ?_, ?_⟩ <;> simp only [mem_cons_, mem_nil_, lkp, hold_eq, b_some, frz_self, frz1_self, frzL_self, frzO_self, frzO_box, frzO_iter, frzL_cons, frzL_nil, frz_agg, frz1_row, frz1_nil, frz1_val, frz1_sl, frz1_rr, frz1_ptr, frz1_ms, frz_val, frz_sl, frz_row, frz_ptr, frz_ms, frz_fp, frz_tup, frz_fn, PV.lt, PV.ltL, PObj.lt, decide_true, Bool.true_and, Bool.and_true, Bool.and_self, Nat.reduceLT, Nat.reduceLeDiff, Nat.reduceEqDiff, if_true, if_false, ↓reduceIte, and_true, true_and, Nat.zero_le, reduceCtorEq, eq_self, decide_eq_true_eq, Int.natCast_add, Int.cast_ofNat_Int] <;> try first | omega | ((repeat' (first | exact And.intro rfl (by omega) | (refine And.intro ?_ ?_))) <;> first | rfl | omega | (congr 3; omega) | (congr 2; omega))
            · have ht : Lib.nDigits N ≤ 4 * i + k := by
                have h1 := (nD_gt (4 * i + k) N (by omega)).1
                apply Decidable.byContradiction
                intro hc
                have h2 := h1 (by omega)
                have h3 := figs_top (n := N)
                rw [← hF, show F.length = i + 1 by omega] at h3
                have h4 : N / 10 ^ (4 * i + k) < 10 ^ (4 - k) := by
                  rw [Nat.div_lt_iff_lt_mul (Nat.pow_pos (by decide)), ← Nat.pow_add]
                  rw [show 4 - k + (4 * i + k) = 4 * (i + 1) by omega]
                  exact h3
                rw [Nat.mod_eq_of_lt h4] at hf
                have := (Nat.le_div_iff_mul_le (Nat.pow_pos (by decide : 0 < 10) : 0 < 10 ^ (4 * i + k)) (x := 1) (y := N)).2 (by omega)
                omega
              have e4 : tT N (4 * i + k) = tT N (4 * i + (k + 1)) := (tT_same ht).symm
              simp (implicitDefEqProofs := false) (disch := omega) only [go_sem, reduceCtorEq, Nat.reduceEqDiff, Nat.reduceBEq, ↓reduceIte, Nat.reduceGT, Nat.reduceAdd, Int.reduceEq, Int.reduceLT, Int.reduceLE, Int.reduceNeg, Int.reduceAdd, Int.reduceSub, Int.reduceMul, Int.reduceDiv, Int.reduceMod, Nat.reduceLT, Nat.reduceLeDiff, Nat.reduceMul, Nat.reduceSub, Int.reduceToNat, go_sem, Nat.le_refl, Int.toNat_natCast, Int.toNat_zero, Int.toNat_one, encI_len, ↓ix_enc, Tryd.results17, hm, hd, e3, hx, hy]
              refine ⟨⟨k + 1, by omega⟩, by show 4 - (k + 1) < 4 - k; omega, ?_⟩
              rw [e4, hd2]
              refine ⟨?_, ?_, ?_, ?_, ?_, ?_, ?_⟩ <;> simp only [mem_cons_, mem_nil_, lkp, hold_eq, b_some, frz_self, frz1_self, frzL_self, frzO_self, frzO_box, frzO_iter, frzL_cons, frzL_nil, frz_agg, frz1_row, frz1_nil, frz1_val, frz1_sl, frz1_rr, frz1_ptr, frz1_ms, frz_val, frz_sl, frz_row, frz_ptr, frz_ms, frz_fp, frz_tup, frz_fn, PV.lt, PV.ltL, PObj.lt, decide_true, Bool.true_and, Bool.and_true, Bool.and_self, Nat.reduceLT, Nat.reduceLeDiff, Nat.reduceEqDiff, if_true, if_false, ↓reduceIte, and_true, true_and, Nat.zero_le, reduceCtorEq, eq_self, decide_eq_true_eq, Int.natCast_add, Int.cast_ofNat_Int] <;> try first | omega | ((repeat' (first | exact And.intro rfl (by omega) | (refine And.intro ?_ ?_))) <;> first | rfl | omega | (congr 3; omega) | (congr 2; omega))
        · have hk4' : k = 4 := by omega
          subst hk4'
          simp (implicitDefEqProofs := false) (disch := omega) only [go_sem, reduceCtorEq, Nat.reduceEqDiff, Nat.reduceBEq, ↓reduceIte, Nat.reduceGT, Nat.reduceAdd, Int.reduceEq, Int.reduceLT, Int.reduceLE, Int.reduceNeg, Int.reduceAdd, Int.reduceSub, Int.reduceMul, Int.reduceDiv, Int.reduceMod, Nat.reduceLT, Nat.reduceLeDiff, Nat.reduceMul, Nat.reduceSub, Int.reduceToNat, go_sem, Nat.le_refl, Int.toNat_natCast, Int.toNat_zero, Int.toNat_one, encI_len, ↓ix_enc, Tryd.results17]
          refine ⟨⟨i + 1, by omega⟩, by show F.length - (i + 1) < F.length - i; omega, ?_⟩
          rw [show tT N (4 * i + 4) = tT N (4 * (i + 1)) by rw [Nat.mul_add]]
          refine ⟨?_, ?_, ?_, ?_, ?_, ?_, ?_⟩ <;> simp only [mem_cons_, mem_nil_, lkp, hold_eq, b_some, frz_self, frz1_self, frzL_self, frzO_self, frzO_box, frzO_iter, frzL_cons, frzL_nil, frz_agg, frz1_row, frz1_nil, frz1_val, frz1_sl, frz1_rr, frz1_ptr, frz1_ms, frz_val, frz_sl, frz_row, frz_ptr, frz_ms, frz_fp, frz_tup, frz_fn, PV.lt, PV.ltL, PObj.lt, decide_true, Bool.true_and, Bool.and_true, Bool.and_self, Nat.reduceLT, Nat.reduceLeDiff, Nat.reduceEqDiff, if_true, if_false, ↓reduceIte, and_true, true_and, Nat.zero_le, reduceCtorEq, eq_self, decide_eq_true_eq, Int.natCast_add, Int.cast_ofNat_Int] <;> try first | omega | ((repeat' (first | exact And.intro rfl (by omega) | (refine And.intro ?_ ?_))) <;> first | rfl | omega | (congr 3; omega) | (congr 2; omega))
    · have hil' : i = F.length := by omega
      subst hil'
      rw [tT_end hD]
      by_cases hb : n < 0
      · rw [← sOf_neg hb]
        simp (implicitDefEqProofs := false) (disch := omega) only [go_sem, reduceCtorEq, Nat.reduceEqDiff, Nat.reduceBEq, ↓reduceIte, Nat.reduceGT, Nat.reduceAdd, Int.reduceEq, Int.reduceLT, Int.reduceLE, Int.reduceNeg, Int.reduceAdd, Int.reduceSub, Int.reduceMul, Int.reduceDiv, Int.reduceMod, Nat.reduceLT, Nat.reduceLeDiff, Nat.reduceMul, Nat.reduceSub, Int.reduceToNat, go_sem, Nat.le_refl, Int.toNat_natCast, Int.toNat_zero, Int.toNat_one, encI_len, ↓ix_enc, Tryd.results17, hb]
        rw [hN]
        have hz : (Lib.decDigits N).toArray.size ≤ 1000 := by
          have := tT_size N (Lib.nDigits N)
          rw [tT_end (Nat.le_refl _)] at this
          have e : (⟨(Lib.decDigits N).toArray⟩ : ByteArray).size = (Lib.decDigits N).toArray.size := rfl
          omega
        rw [hN] at hz
        exact ⟨by simp only [List.size_toArray, List.length_cons, List.length_nil] at hz ⊢; omega, rfl⟩
      · rw [sOf_pos (by omega)]
        simp (implicitDefEqProofs := false) (disch := omega) only [go_sem, reduceCtorEq, Nat.reduceEqDiff, Nat.reduceBEq, ↓reduceIte, Nat.reduceGT, Nat.reduceAdd, Int.reduceEq, Int.reduceLT, Int.reduceLE, Int.reduceNeg, Int.reduceAdd, Int.reduceSub, Int.reduceMul, Int.reduceDiv, Int.reduceMod, Nat.reduceLT, Nat.reduceLeDiff, Nat.reduceMul, Nat.reduceSub, Int.reduceToNat, go_sem, Nat.le_refl, Int.toNat_natCast, Int.toNat_zero, Int.toNat_one, encI_len, ↓ix_enc, Tryd.results17, hb]
        rw [hN]
end Go.Proofs.YtegehnojbfedlaaDoor
