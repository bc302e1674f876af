/-
  Contracts and plain laws on the way to the statement; each says its own conditions.
-/
import Derived.Test.YtefhongghmimgaaTy
open Go Go.Proofs Go.Pw
namespace Go.Proofs.Ytefhongghmimgaa
set_option maxRecDepth 4000
set_option linter.unusedVariables false
set_option linter.unusedSimpArgs false
def isF (n : Int) : Bool := decide (0 ≤ n ∧ n < 55296 ∨ 57344 ≤ n ∧ n ≤ 1114111)
theorem ris_ok (n : Int) : Ok Try.prog 71 [vI n] (vB (isF n)) := by
  refine Ok.of_pwp (by kernel_rfl) Try.func71 rfl (by kernel_rfl) (by kernel_rfl) ?_
  simp (implicitDefEqProofs := false) (disch := omega) only [go_sem, reduceCtorEq, Nat.reduceEqDiff, Nat.reduceBEq, ↓reduceIte, Nat.reduceGT, Nat.reduceAdd, Int.reduceEq, Int.reduceLT, Int.reduceLE, Int.reduceNeg, Int.reduceAdd, Int.reduceSub, Int.reduceMul, Int.reduceDiv, Int.reduceMod, Nat.reduceLT, Nat.reduceLeDiff, Nat.reduceMul, Nat.reduceSub, Int.reduceToNat, go_sem, ↓ix_enc, encI_len, encI_take, Nat.le_refl, Try.results71]
  repeat' ((first
    | with_reducible refine ifK_split (fun _ => ?_) (fun _ => ?_)) <;> try simp (implicitDefEqProofs := false) (disch := omega) only [go_sem, reduceCtorEq, Nat.reduceEqDiff, Nat.reduceBEq, ↓reduceIte, Nat.reduceGT, Nat.reduceAdd, Int.reduceEq, Int.reduceLT, Int.reduceLE, Int.reduceNeg, Int.reduceAdd, Int.reduceSub, Int.reduceMul, Int.reduceDiv, Int.reduceMod, Nat.reduceLT, Nat.reduceLeDiff, Nat.reduceMul, Nat.reduceSub, Int.reduceToNat, go_sem, ↓ix_enc, encI_len, encI_take, Nat.le_refl, Try.results71])
  all_goals (congr 2; simp only [isF]; first | (rw [eq_comm, decide_eq_false_iff_not]; omega) | (rw [eq_comm, decide_eq_true_eq]; omega) | (congr 1; apply propext; constructor <;> intro <;> omega))
def bytesF (n : Int) : List Int :=
  if n < 128 then [n] else if n < 2048 then [192 + n / 64, 128 + n % 64] else if n < 65536 then [224 + n / 4096, 128 + n / 64 % 64, 128 + n % 64]
  else [240 + n / 262144, 128 + n / 4096 % 64, 128 + n / 64 % 64, 128 + n % 64]
theorem bytes_ok (n : Int) (h0 : 0 ≤ n) (h1 : n ≤ 1114111) : Ok Try.prog 72 [vI n] (.sl (encI (bytesF n))) := by
  refine Ok.of_pwp (by kernel_rfl) Try.func72 rfl (by kernel_rfl) (by kernel_rfl) ?_
  unfold bytesF
  simp (implicitDefEqProofs := false) (disch := omega) only [go_sem, reduceCtorEq, Nat.reduceEqDiff, Nat.reduceBEq, ↓reduceIte, Nat.reduceGT, Nat.reduceAdd, Int.reduceEq, Int.reduceLT, Int.reduceLE, Int.reduceNeg, Int.reduceAdd, Int.reduceSub, Int.reduceMul, Int.reduceDiv, Int.reduceMod, Nat.reduceLT, Nat.reduceLeDiff, Nat.reduceMul, Nat.reduceSub, Int.reduceToNat, go_sem, ↓ix_enc, encI_len, encI_take, Nat.le_refl, tdivE, tmodE, Try.results72]
  repeat' ((first
    | with_reducible refine ifK_split (fun _ => ?_) (fun _ => ?_)) <;> try simp (implicitDefEqProofs := false) (disch := omega) only [go_sem, reduceCtorEq, Nat.reduceEqDiff, Nat.reduceBEq, ↓reduceIte, Nat.reduceGT, Nat.reduceAdd, Int.reduceEq, Int.reduceLT, Int.reduceLE, Int.reduceNeg, Int.reduceAdd, Int.reduceSub, Int.reduceMul, Int.reduceDiv, Int.reduceMod, Nat.reduceLT, Nat.reduceLeDiff, Nat.reduceMul, Nat.reduceSub, Int.reduceToNat, go_sem, ↓ix_enc, encI_len, encI_take, Nat.le_refl, tdivE, tmodE, Try.results72])
  · rw [if_pos (by omega)]; rfl
  · rw [if_neg (by omega), if_pos (by omega)]; rfl
  · rw [if_neg (by omega), if_neg (by omega), if_pos (by omega)]; rfl
  · rw [if_neg (by omega), if_neg (by omega), if_neg (by omega)]; rfl
theorem bt_range (s : ByteArray) (i : Int) : 0 ≤ bt s i ∧ bt s i ≤ 255 := by
  unfold bt
  have := UInt8.toNat_lt (s.data.toList.getD i.toNat 0)
  omega
def headF : Nat → Int
  | 2 => 192
  | 3 => 224
  | 4 => 240
  | _ => 0
def accF (s : ByteArray) (a : Int) (m : Nat) : Nat → Int
  | 0 => bt s a - headF m
  | j + 1 => accF s a m j * 64 + bt s (a + (j + 1)) - 128
def sameF (b : List Int) (s : ByteArray) (a : Int) (m : Nat) : Nat → Bool
  | 0 => decide ((b.length : Int) = (m : Int))
  | j + 1 => sameF b s a m j && decide (b.getD j 0 = bt s (a + j))
def firstF (s : ByteArray) (a : Int) : Nat → Nat → Int × Int
  | 0, _ => (-1, 0)
  | f + 1, m => if (s.size : Int) < a + m then (-1, 0) else if isF (accF s a m (m - 1)) && sameF (bytesF (accF s a m (m - 1))) s a m m then (accF s a m (m - 1), m) else firstF s a f (m + 1)
theorem accF_step (s : ByteArray) (a : Int) (m j : Nat) (B : Int) (h : -B ≤ accF s a m j ∧ accF s a m j ≤ B) : -(B * 64 + 400) ≤ accF s a m (j + 1) ∧ accF s a m (j + 1) ≤ B * 64 + 400 := by
  have := bt_range s (a + (j + 1))
  simp only [accF]
  omega
theorem accF_range (s : ByteArray) (a : Int) (m : Nat) (j : Nat) (hj : j ≤ 3) : -1000000000 ≤ accF s a m j ∧ accF s a m j ≤ 1000000000 := by
  have b0 := bt_range s a
  have hh : 0 ≤ headF m ∧ headF m ≤ 240 := by unfold headF; split <;> decide
  have h0 : -300 ≤ accF s a m 0 ∧ accF s a m 0 ≤ 300 := by simp only [accF]; omega
  have h1 := accF_step s a m 0 _ h0
  have h2 := accF_step s a m 1 _ h1
  have h3 := accF_step s a m 2 _ h2
  have : j = 0 ∨ j = 1 ∨ j = 2 ∨ j = 3 := by omega
  rcases this with rfl | rfl | rfl | rfl
  · omega
  · simp only [Nat.zero_add] at h1; omega
  · simp only [Nat.reduceAdd] at h2; omega
  · simp only [Nat.reduceAdd] at h3; omega
theorem sameF_false {b : List Int} {s : ByteArray} {a : Int} {m j : Nat} (h : sameF b s a m j = false) : ∀ k, sameF b s a m (j + k) = false
  | 0 => h
  | k + 1 => by rw [← Nat.add_assoc, sameF, sameF_false h k, Bool.false_and]
theorem sameF_len {b : List Int} {s : ByteArray} {a : Int} {m : Nat} : ∀ {j : Nat}, sameF b s a m j = true → b.length = m
  | 0, h => by simp only [sameF, decide_eq_true_eq] at h; omega
  | j + 1, h => by
    simp only [sameF, Bool.and_eq_true] at h
    exact sameF_len h.1
abbrev two (n e : Int) : PV := .tup [vI n, vI e]
set_option maxHeartbeats 8000000 in
theorem first_ok (s : ByteArray) (a : Int) (h0 : 0 ≤ a) (h1 : a ≤ s.size) (hs : s.size ≤ 140737488351232) : Ok Try.prog 62 [vS s, vI a] (two (firstF s a 4 1).1 (firstF s a 4 1).2) := by
  refine Ok.of_pwp (by kernel_rfl) Try.func62 rfl (by kernel_rfl) (by kernel_rfl) ?_
  generalize hr : firstF s a 4 1 = r
  simp (implicitDefEqProofs := false) (disch := omega) only [go_sem, reduceCtorEq, Nat.reduceEqDiff, Nat.reduceBEq, ↓reduceIte, Nat.reduceGT, Nat.reduceAdd, Int.reduceEq, Int.reduceLT, Int.reduceLE, Int.reduceNeg, Int.reduceAdd, Int.reduceSub, Int.reduceMul, Int.reduceDiv, Int.reduceMod, Nat.reduceLT, Nat.reduceLeDiff, Nat.reduceMul, Nat.reduceSub, Int.reduceToNat, go_sem, ↓ix_enc, encI_len, encI_take, Nat.le_refl]
  refine p_loop (ι := { m : Nat // 1 ≤ m ∧ m ≤ 5 ∧ r = firstF s a (5 - m) m }) (fun m => ⟨[(6, vI m.1), (0, vS s), (1, vI a)], [], [], 0, 0⟩) (fun m => 5 - m.1) ⟨1, by decide, by decide, hr.symm⟩ ?_ ?_
  · refine ⟨?_, ?_, ?_, ?_, ?_, ?_, ?_⟩ <;> simp only [mem_cons_, mem_nil_, lkp, hold_eq, b_some, frz_self, frz1_self, frzL_self, frzO_self, frzO_box, frzO_iter, frzL_cons, frzL_nil, frz_agg, frz1_row, frz1_nil, frz1_val, frz1_sl, frz1_rr, frz1_ptr, frz1_ms, frz_val, frz_sl, frz_row, frz_ptr, frz_ms, frz_fp, frz_tup, frz_fn, PV.lt, PV.ltL, PObj.lt, decide_true, Bool.and_true, Bool.and_self, Nat.reduceLT, Nat.reduceLeDiff, Nat.reduceEqDiff, if_true, if_false, ↓reduceIte, and_true, true_and, Nat.zero_le, reduceCtorEq, eq_self, decide_eq_true_eq, Int.natCast_one] <;> try first | omega | ((repeat' (first | exact And.intro rfl (by omega) | (refine And.intro ?_ ?_))) <;> first | rfl | omega | (congr 3; omega) | (congr 2; omega))
  · rintro ⟨m, g1, g2, g3⟩
    have hm : m = 1 ∨ m = 2 ∨ m = 3 ∨ m = 4 ∨ m = 5 := by omega
    simp only
    rcases hm with rfl | rfl | rfl | rfl | rfl
    · simp only [Int.natCast_one]
      simp (implicitDefEqProofs := false) (disch := omega) only [go_sem, reduceCtorEq, Nat.reduceEqDiff, Nat.reduceBEq, ↓reduceIte, Nat.reduceGT, Nat.reduceAdd, Int.reduceEq, Int.reduceLT, Int.reduceLE, Int.reduceNeg, Int.reduceAdd, Int.reduceSub, Int.reduceMul, Int.reduceDiv, Int.reduceMod, Nat.reduceLT, Nat.reduceLeDiff, Nat.reduceMul, Nat.reduceSub, Int.reduceToNat, go_sem, ↓ix_enc, encI_len, encI_take, Nat.le_refl]
      with_reducible refine ifK_split (fun hge => ?_) (fun hlt => ?_)
      · simp (implicitDefEqProofs := false) (disch := omega) only [go_sem, reduceCtorEq, Nat.reduceEqDiff, Nat.reduceBEq, ↓reduceIte, Nat.reduceGT, Nat.reduceAdd, Int.reduceEq, Int.reduceLT, Int.reduceLE, Int.reduceNeg, Int.reduceAdd, Int.reduceSub, Int.reduceMul, Int.reduceDiv, Int.reduceMod, Nat.reduceLT, Nat.reduceLeDiff, Nat.reduceMul, Nat.reduceSub, Int.reduceToNat, go_sem, ↓ix_enc, encI_len, encI_take, Nat.le_refl, Try.results62]
        rw [g3]
        simp only [firstF]
        rw [if_pos (by omega)]
      · have hb := bt_range s a
        simp (implicitDefEqProofs := false) (disch := omega) only [go_sem, reduceCtorEq, Nat.reduceEqDiff, Nat.reduceBEq, ↓reduceIte, Nat.reduceGT, Nat.reduceAdd, Int.reduceEq, Int.reduceLT, Int.reduceLE, Int.reduceNeg, Int.reduceAdd, Int.reduceSub, Int.reduceMul, Int.reduceDiv, Int.reduceMod, Nat.reduceLT, Nat.reduceLeDiff, Nat.reduceMul, Nat.reduceSub, Int.reduceToNat, go_sem, ↓ix_enc, encI_len, encI_take, Nat.le_refl]
        refine p_loop (ι := { i : Nat // i < 1 }) (fun i => ⟨[(9, vI (i.1 + 1 : Nat)), (8, vI (accF s a 1 i.1)), (6, vI 1), (0, vS s), (1, vI a)], [], [], 9, 9⟩) (fun i => 1 - i.1) ⟨0, by omega⟩ ?_ ?_
        · simp only [accF, headF]
          refine ⟨?_, ?_, ?_, ?_, ?_, ?_, ?_⟩ <;> simp only [mem_cons_, mem_nil_, lkp, hold_eq, b_some, frz_self, frz1_self, frzL_self, frzO_self, frzO_box, frzO_iter, frzL_cons, frzL_nil, frz_agg, frz1_row, frz1_nil, frz1_val, frz1_sl, frz1_rr, frz1_ptr, frz1_ms, frz_val, frz_sl, frz_row, frz_ptr, frz_ms, frz_fp, frz_tup, frz_fn, PV.lt, PV.ltL, PObj.lt, decide_true, Bool.and_true, Bool.and_self, Nat.reduceLT, Nat.reduceLeDiff, Nat.reduceEqDiff, if_true, if_false, ↓reduceIte, and_true, true_and, Nat.zero_le, reduceCtorEq, eq_self, decide_eq_true_eq, Int.natCast_one, Nat.zero_add] <;> try first | omega | ((repeat' (first | exact And.intro rfl (by omega) | (refine And.intro ?_ ?_))) <;> first | rfl | omega | (congr 3; omega) | (congr 2; omega))
        · rintro ⟨i, hi⟩
          simp only
          have hacc := accF_range s a 1 i (by omega)
          simp (implicitDefEqProofs := false) (disch := omega) only [go_sem, reduceCtorEq, Nat.reduceEqDiff, Nat.reduceBEq, ↓reduceIte, Nat.reduceGT, Nat.reduceAdd, Int.reduceEq, Int.reduceLT, Int.reduceLE, Int.reduceNeg, Int.reduceAdd, Int.reduceSub, Int.reduceMul, Int.reduceDiv, Int.reduceMod, Nat.reduceLT, Nat.reduceLeDiff, Nat.reduceMul, Nat.reduceSub, Int.reduceToNat, go_sem, ↓ix_enc, encI_len, encI_take, Nat.le_refl]
          · have hi2 : i = 1 - 1 := by omega
            subst hi2
            simp only [Nat.reduceSub] at hacc ⊢
            simp (implicitDefEqProofs := false) (disch := omega) only [go_sem, reduceCtorEq, Nat.reduceEqDiff, Nat.reduceBEq, ↓reduceIte, Nat.reduceGT, Nat.reduceAdd, Int.reduceEq, Int.reduceLT, Int.reduceLE, Int.reduceNeg, Int.reduceAdd, Int.reduceSub, Int.reduceMul, Int.reduceDiv, Int.reduceMod, Nat.reduceLT, Nat.reduceLeDiff, Nat.reduceMul, Nat.reduceSub, Int.reduceToNat, go_sem, ↓ix_enc, encI_len, encI_take, Nat.le_refl]
            with_reducible refine CallOk.of (ris_ok _) rfl ?_
            simp (implicitDefEqProofs := false) (disch := omega) only [go_sem, reduceCtorEq, Nat.reduceEqDiff, Nat.reduceBEq, ↓reduceIte, Nat.reduceGT, Nat.reduceAdd, Int.reduceEq, Int.reduceLT, Int.reduceLE, Int.reduceNeg, Int.reduceAdd, Int.reduceSub, Int.reduceMul, Int.reduceDiv, Int.reduceMod, Nat.reduceLT, Nat.reduceLeDiff, Nat.reduceMul, Nat.reduceSub, Int.reduceToNat, go_sem, ↓ix_enc, encI_len, encI_take, Nat.le_refl]
            with_reducible refine ifK_bsplit (fun hn => ?_) (fun hn => ?_)
            · have hn' : isF (accF s a 1 (1 - 1)) = false := by simpa using hn
              simp (implicitDefEqProofs := false) (disch := omega) only [go_sem, reduceCtorEq, Nat.reduceEqDiff, Nat.reduceBEq, ↓reduceIte, Nat.reduceGT, Nat.reduceAdd, Int.reduceEq, Int.reduceLT, Int.reduceLE, Int.reduceNeg, Int.reduceAdd, Int.reduceSub, Int.reduceMul, Int.reduceDiv, Int.reduceMod, Nat.reduceLT, Nat.reduceLeDiff, Nat.reduceMul, Nat.reduceSub, Int.reduceToNat, go_sem, ↓ix_enc, encI_len, encI_take, Nat.le_refl]
              refine ⟨⟨2, by omega, by omega, ?_⟩, by simp only; omega, ?_⟩
              · rw [g3]
                simp only [firstF]
                rw [if_neg (by omega), hn', Bool.false_and]
                rfl
              · refine ⟨?_, ?_, ?_, ?_, ?_, ?_, ?_⟩ <;> simp only [mem_cons_, mem_nil_, lkp, hold_eq, b_some, frz_self, frz1_self, frzL_self, frzO_self, frzO_box, frzO_iter, frzL_cons, frzL_nil, frz_agg, frz1_row, frz1_nil, frz1_val, frz1_sl, frz1_rr, frz1_ptr, frz1_ms, frz_val, frz_sl, frz_row, frz_ptr, frz_ms, frz_fp, frz_tup, frz_fn, PV.lt, PV.ltL, PObj.lt, decide_true, Bool.and_true, Bool.and_self, Nat.reduceLT, Nat.reduceLeDiff, Nat.reduceEqDiff, if_true, if_false, ↓reduceIte, and_true, true_and, Nat.zero_le, reduceCtorEq, eq_self, decide_eq_true_eq, Int.cast_ofNat_Int] <;> try first | omega | ((repeat' (first | exact And.intro rfl (by omega) | (refine And.intro ?_ ?_))) <;> first | rfl | omega | (congr 3; omega) | (congr 2; omega))
            · have hn' : isF (accF s a 1 (1 - 1)) = true := by simpa using hn
              have hp : 0 ≤ accF s a 1 (1 - 1) ∧ accF s a 1 (1 - 1) ≤ 1114111 := by
                unfold isF at hn'
                simp only [decide_eq_true_eq] at hn'
                omega
              simp only [Nat.reduceSub] at hp
              simp (implicitDefEqProofs := false) (disch := omega) only [go_sem, reduceCtorEq, Nat.reduceEqDiff, Nat.reduceBEq, ↓reduceIte, Nat.reduceGT, Nat.reduceAdd, Int.reduceEq, Int.reduceLT, Int.reduceLE, Int.reduceNeg, Int.reduceAdd, Int.reduceSub, Int.reduceMul, Int.reduceDiv, Int.reduceMod, Nat.reduceLT, Nat.reduceLeDiff, Nat.reduceMul, Nat.reduceSub, Int.reduceToNat, go_sem, ↓ix_enc, encI_len, encI_take, Nat.le_refl]
              with_reducible refine CallOk.of (bytes_ok _ hp.1 hp.2) rfl ?_
              simp (implicitDefEqProofs := false) (disch := omega) only [go_sem, reduceCtorEq, Nat.reduceEqDiff, Nat.reduceBEq, ↓reduceIte, Nat.reduceGT, Nat.reduceAdd, Int.reduceEq, Int.reduceLT, Int.reduceLE, Int.reduceNeg, Int.reduceAdd, Int.reduceSub, Int.reduceMul, Int.reduceDiv, Int.reduceMod, Nat.reduceLT, Nat.reduceLeDiff, Nat.reduceMul, Nat.reduceSub, Int.reduceToNat, go_sem, ↓ix_enc, encI_len, encI_take, Nat.le_refl]
              refine p_loop (ι := { j : Nat // j ≤ 1 }) (fun j => ⟨[(12, vI j.1), (11, vB (sameF (bytesF (accF s a 1 (1 - 1))) s a 1 j.1)), (10, .sl (encI (bytesF (accF s a 1 (1 - 1))))), (8, vI (accF s a 1 (1 - 1))), (6, vI 1), (0, vS s), (1, vI a)], [], [], 9, 9⟩) (fun j => 1 - j.1) ⟨0, by omega⟩ ?_ ?_
              · simp only [sameF, Int.cast_ofNat_Int, Int.natCast_one]
                refine ⟨?_, ?_, ?_, ?_, ?_, ?_, ?_⟩ <;> simp only [mem_cons_, mem_nil_, lkp, hold_eq, b_some, frz_self, frz1_self, frzL_self, frzO_self, frzO_box, frzO_iter, frzL_cons, frzL_nil, frz_agg, frz1_row, frz1_nil, frz1_val, frz1_sl, frz1_rr, frz1_ptr, frz1_ms, frz_val, frz_sl, frz_row, frz_ptr, frz_ms, frz_fp, frz_tup, frz_fn, PV.lt, PV.ltL, PObj.lt, decide_true, Bool.and_true, Bool.and_self, Nat.reduceLT, Nat.reduceLeDiff, Nat.reduceEqDiff, if_true, if_false, ↓reduceIte, and_true, true_and, Nat.zero_le, reduceCtorEq, eq_self, decide_eq_true_eq, Int.natCast_zero] <;> try first | omega | ((repeat' (first | exact And.intro rfl (by omega) | (refine And.intro ?_ ?_))) <;> first | rfl | omega | (congr 3; omega) | (congr 2; omega))
              · rintro ⟨j, hj⟩
                simp only
                generalize hbs : bytesF (accF s a 1 (1 - 1)) = B at *
                have hbj := bt_range s (a + j)
                simp (implicitDefEqProofs := false) (disch := omega) only [go_sem, reduceCtorEq, Nat.reduceEqDiff, Nat.reduceBEq, ↓reduceIte, Nat.reduceGT, Nat.reduceAdd, Int.reduceEq, Int.reduceLT, Int.reduceLE, Int.reduceNeg, Int.reduceAdd, Int.reduceSub, Int.reduceMul, Int.reduceDiv, Int.reduceMod, Nat.reduceLT, Nat.reduceLeDiff, Nat.reduceMul, Nat.reduceSub, Int.reduceToNat, go_sem, ↓ix_enc, encI_len, encI_take, Nat.le_refl]
                with_reducible refine ifK_bsplit (fun hs1 => ?_) (fun hs1 => ?_)
                · have hlen := sameF_len hs1
                  simp (implicitDefEqProofs := false) (disch := omega) only [go_sem, reduceCtorEq, Nat.reduceEqDiff, Nat.reduceBEq, ↓reduceIte, Nat.reduceGT, Nat.reduceAdd, Int.reduceEq, Int.reduceLT, Int.reduceLE, Int.reduceNeg, Int.reduceAdd, Int.reduceSub, Int.reduceMul, Int.reduceDiv, Int.reduceMod, Nat.reduceLT, Nat.reduceLeDiff, Nat.reduceMul, Nat.reduceSub, Int.reduceToNat, go_sem, ↓ix_enc, encI_len, encI_take, Nat.le_refl, hs1]
                  with_reducible refine ifK_split (fun hj1 => ?_) (fun hj1 => ?_)
                  · simp (implicitDefEqProofs := false) (disch := omega) only [go_sem, reduceCtorEq, Nat.reduceEqDiff, Nat.reduceBEq, ↓reduceIte, Nat.reduceGT, Nat.reduceAdd, Int.reduceEq, Int.reduceLT, Int.reduceLE, Int.reduceNeg, Int.reduceAdd, Int.reduceSub, Int.reduceMul, Int.reduceDiv, Int.reduceMod, Nat.reduceLT, Nat.reduceLeDiff, Nat.reduceMul, Nat.reduceSub, Int.reduceToNat, go_sem, ↓ix_enc, encI_len, encI_take, Nat.le_refl, hs1]
                    have e3 : sameF B s a 1 (j + 1) = decide (B.getD j 0 = bt s (a + j)) := by simp only [sameF, hs1, Bool.true_and]
                    refine ⟨⟨j + 1, by omega⟩, by simp only; omega, ?_⟩
                    simp only [e3]
                    refine ⟨?_, ?_, ?_, ?_, ?_, ?_, ?_⟩ <;> simp only [mem_cons_, mem_nil_, lkp, hold_eq, b_some, frz_self, frz1_self, frzL_self, frzO_self, frzO_box, frzO_iter, frzL_cons, frzL_nil, frz_agg, frz1_row, frz1_nil, frz1_val, frz1_sl, frz1_rr, frz1_ptr, frz1_ms, frz_val, frz_sl, frz_row, frz_ptr, frz_ms, frz_fp, frz_tup, frz_fn, PV.lt, PV.ltL, PObj.lt, decide_true, Bool.and_true, Bool.and_self, Nat.reduceLT, Nat.reduceLeDiff, Nat.reduceEqDiff, if_true, if_false, ↓reduceIte, and_true, true_and, Nat.zero_le, reduceCtorEq, eq_self, decide_eq_true_eq, Int.natCast_add, Int.natCast_one] <;> try first | omega | ((repeat' (first | exact And.intro rfl (by omega) | (refine And.intro ?_ ?_))) <;> first | rfl | omega | (congr 3; omega) | (congr 2; omega))
                  · have hj2 : j = 1 := by omega
                    subst hj2
                    simp (implicitDefEqProofs := false) (disch := omega) only [go_sem, reduceCtorEq, Nat.reduceEqDiff, Nat.reduceBEq, ↓reduceIte, Nat.reduceGT, Nat.reduceAdd, Int.reduceEq, Int.reduceLT, Int.reduceLE, Int.reduceNeg, Int.reduceAdd, Int.reduceSub, Int.reduceMul, Int.reduceDiv, Int.reduceMod, Nat.reduceLT, Nat.reduceLeDiff, Nat.reduceMul, Nat.reduceSub, Int.reduceToNat, go_sem, ↓ix_enc, encI_len, encI_take, Nat.le_refl, hs1, Try.results62]
                    rw [g3]
                    simp only [firstF]
                    rw [if_neg (by omega), hn', hbs, hs1]
                    rfl
                · have hs2 := sameF_false hs1 (1 - j)
                  rw [show j + (1 - j) = 1 by omega] at hs2
                  simp (implicitDefEqProofs := false) (disch := omega) only [go_sem, reduceCtorEq, Nat.reduceEqDiff, Nat.reduceBEq, ↓reduceIte, Nat.reduceGT, Nat.reduceAdd, Int.reduceEq, Int.reduceLT, Int.reduceLE, Int.reduceNeg, Int.reduceAdd, Int.reduceSub, Int.reduceMul, Int.reduceDiv, Int.reduceMod, Nat.reduceLT, Nat.reduceLeDiff, Nat.reduceMul, Nat.reduceSub, Int.reduceToNat, go_sem, ↓ix_enc, encI_len, encI_take, Nat.le_refl, hs1]
                  refine ⟨⟨2, by omega, by omega, ?_⟩, by simp only; omega, ?_⟩
                  · rw [g3]
                    simp only [firstF]
                    rw [if_neg (by omega), hn', hbs, hs2]
                    rfl
                  · refine ⟨?_, ?_, ?_, ?_, ?_, ?_, ?_⟩ <;> simp only [mem_cons_, mem_nil_, lkp, hold_eq, b_some, frz_self, frz1_self, frzL_self, frzO_self, frzO_box, frzO_iter, frzL_cons, frzL_nil, frz_agg, frz1_row, frz1_nil, frz1_val, frz1_sl, frz1_rr, frz1_ptr, frz1_ms, frz_val, frz_sl, frz_row, frz_ptr, frz_ms, frz_fp, frz_tup, frz_fn, PV.lt, PV.ltL, PObj.lt, decide_true, Bool.and_true, Bool.and_self, Nat.reduceLT, Nat.reduceLeDiff, Nat.reduceEqDiff, if_true, if_false, ↓reduceIte, and_true, true_and, Nat.zero_le, reduceCtorEq, eq_self, decide_eq_true_eq, Int.cast_ofNat_Int] <;> try first | omega | ((repeat' (first | exact And.intro rfl (by omega) | (refine And.intro ?_ ?_))) <;> first | rfl | omega | (congr 3; omega) | (congr 2; omega))
    · simp only [Int.cast_ofNat_Int]
      simp (implicitDefEqProofs := false) (disch := omega) only [go_sem, reduceCtorEq, Nat.reduceEqDiff, Nat.reduceBEq, ↓reduceIte, Nat.reduceGT, Nat.reduceAdd, Int.reduceEq, Int.reduceLT, Int.reduceLE, Int.reduceNeg, Int.reduceAdd, Int.reduceSub, Int.reduceMul, Int.reduceDiv, Int.reduceMod, Nat.reduceLT, Nat.reduceLeDiff, Nat.reduceMul, Nat.reduceSub, Int.reduceToNat, go_sem, ↓ix_enc, encI_len, encI_take, Nat.le_refl]
      with_reducible refine ifK_split (fun hge => ?_) (fun hlt => ?_)
      · simp (implicitDefEqProofs := false) (disch := omega) only [go_sem, reduceCtorEq, Nat.reduceEqDiff, Nat.reduceBEq, ↓reduceIte, Nat.reduceGT, Nat.reduceAdd, Int.reduceEq, Int.reduceLT, Int.reduceLE, Int.reduceNeg, Int.reduceAdd, Int.reduceSub, Int.reduceMul, Int.reduceDiv, Int.reduceMod, Nat.reduceLT, Nat.reduceLeDiff, Nat.reduceMul, Nat.reduceSub, Int.reduceToNat, go_sem, ↓ix_enc, encI_len, encI_take, Nat.le_refl, Try.results62]
        rw [g3]
        simp only [firstF]
        rw [if_pos (by omega)]
      · have hb := bt_range s a
        simp (implicitDefEqProofs := false) (disch := omega) only [go_sem, reduceCtorEq, Nat.reduceEqDiff, Nat.reduceBEq, ↓reduceIte, Nat.reduceGT, Nat.reduceAdd, Int.reduceEq, Int.reduceLT, Int.reduceLE, Int.reduceNeg, Int.reduceAdd, Int.reduceSub, Int.reduceMul, Int.reduceDiv, Int.reduceMod, Nat.reduceLT, Nat.reduceLeDiff, Nat.reduceMul, Nat.reduceSub, Int.reduceToNat, go_sem, ↓ix_enc, encI_len, encI_take, Nat.le_refl]
        refine p_loop (ι := { i : Nat // i < 2 }) (fun i => ⟨[(9, vI (i.1 + 1 : Nat)), (8, vI (accF s a 2 i.1)), (6, vI 2), (0, vS s), (1, vI a)], [], [], 9, 9⟩) (fun i => 2 - i.1) ⟨0, by omega⟩ ?_ ?_
        · simp only [accF, headF]
          refine ⟨?_, ?_, ?_, ?_, ?_, ?_, ?_⟩ <;> simp only [mem_cons_, mem_nil_, lkp, hold_eq, b_some, frz_self, frz1_self, frzL_self, frzO_self, frzO_box, frzO_iter, frzL_cons, frzL_nil, frz_agg, frz1_row, frz1_nil, frz1_val, frz1_sl, frz1_rr, frz1_ptr, frz1_ms, frz_val, frz_sl, frz_row, frz_ptr, frz_ms, frz_fp, frz_tup, frz_fn, PV.lt, PV.ltL, PObj.lt, decide_true, Bool.and_true, Bool.and_self, Nat.reduceLT, Nat.reduceLeDiff, Nat.reduceEqDiff, if_true, if_false, ↓reduceIte, and_true, true_and, Nat.zero_le, reduceCtorEq, eq_self, decide_eq_true_eq, Int.natCast_one, Nat.zero_add] <;> try first | omega | ((repeat' (first | exact And.intro rfl (by omega) | (refine And.intro ?_ ?_))) <;> first | rfl | omega | (congr 3; omega) | (congr 2; omega))
        · rintro ⟨i, hi⟩
          simp only
          have hacc := accF_range s a 2 i (by omega)
          simp (implicitDefEqProofs := false) (disch := omega) only [go_sem, reduceCtorEq, Nat.reduceEqDiff, Nat.reduceBEq, ↓reduceIte, Nat.reduceGT, Nat.reduceAdd, Int.reduceEq, Int.reduceLT, Int.reduceLE, Int.reduceNeg, Int.reduceAdd, Int.reduceSub, Int.reduceMul, Int.reduceDiv, Int.reduceMod, Nat.reduceLT, Nat.reduceLeDiff, Nat.reduceMul, Nat.reduceSub, Int.reduceToNat, go_sem, ↓ix_enc, encI_len, encI_take, Nat.le_refl]
          with_reducible refine ifK_split (fun hlt2 => ?_) (fun hge2 => ?_)
          · have hacc2 := accF_range s a 2 (i + 1) (by omega)
            have hb2 := bt_range s (a + (i + 1 : Nat))
            have e2 : accF s a 2 (i + 1) = accF s a 2 i * 64 + bt s (a + (i + 1 : Nat)) - 128 := by simp only [accF]; rfl
            simp (implicitDefEqProofs := false) (disch := omega) only [go_sem, reduceCtorEq, Nat.reduceEqDiff, Nat.reduceBEq, ↓reduceIte, Nat.reduceGT, Nat.reduceAdd, Int.reduceEq, Int.reduceLT, Int.reduceLE, Int.reduceNeg, Int.reduceAdd, Int.reduceSub, Int.reduceMul, Int.reduceDiv, Int.reduceMod, Nat.reduceLT, Nat.reduceLeDiff, Nat.reduceMul, Nat.reduceSub, Int.reduceToNat, go_sem, ↓ix_enc, encI_len, encI_take, Nat.le_refl]
            refine ⟨⟨i + 1, by omega⟩, by simp only; omega, ?_⟩
            simp only [e2]
            refine ⟨?_, ?_, ?_, ?_, ?_, ?_, ?_⟩ <;> simp only [mem_cons_, mem_nil_, lkp, hold_eq, b_some, frz_self, frz1_self, frzL_self, frzO_self, frzO_box, frzO_iter, frzL_cons, frzL_nil, frz_agg, frz1_row, frz1_nil, frz1_val, frz1_sl, frz1_rr, frz1_ptr, frz1_ms, frz_val, frz_sl, frz_row, frz_ptr, frz_ms, frz_fp, frz_tup, frz_fn, PV.lt, PV.ltL, PObj.lt, decide_true, Bool.and_true, Bool.and_self, Nat.reduceLT, Nat.reduceLeDiff, Nat.reduceEqDiff, if_true, if_false, ↓reduceIte, and_true, true_and, Nat.zero_le, reduceCtorEq, eq_self, decide_eq_true_eq, Int.natCast_add, Int.natCast_one] <;> try first | omega | ((repeat' (first | exact And.intro rfl (by omega) | (refine And.intro ?_ ?_))) <;> first | rfl | omega | (congr 3; omega) | (congr 2; omega))
          · have hi2 : i = 2 - 1 := by omega
            subst hi2
            simp only [Nat.reduceSub] at hacc ⊢
            simp (implicitDefEqProofs := false) (disch := omega) only [go_sem, reduceCtorEq, Nat.reduceEqDiff, Nat.reduceBEq, ↓reduceIte, Nat.reduceGT, Nat.reduceAdd, Int.reduceEq, Int.reduceLT, Int.reduceLE, Int.reduceNeg, Int.reduceAdd, Int.reduceSub, Int.reduceMul, Int.reduceDiv, Int.reduceMod, Nat.reduceLT, Nat.reduceLeDiff, Nat.reduceMul, Nat.reduceSub, Int.reduceToNat, go_sem, ↓ix_enc, encI_len, encI_take, Nat.le_refl]
            with_reducible refine CallOk.of (ris_ok _) rfl ?_
            simp (implicitDefEqProofs := false) (disch := omega) only [go_sem, reduceCtorEq, Nat.reduceEqDiff, Nat.reduceBEq, ↓reduceIte, Nat.reduceGT, Nat.reduceAdd, Int.reduceEq, Int.reduceLT, Int.reduceLE, Int.reduceNeg, Int.reduceAdd, Int.reduceSub, Int.reduceMul, Int.reduceDiv, Int.reduceMod, Nat.reduceLT, Nat.reduceLeDiff, Nat.reduceMul, Nat.reduceSub, Int.reduceToNat, go_sem, ↓ix_enc, encI_len, encI_take, Nat.le_refl]
            with_reducible refine ifK_bsplit (fun hn => ?_) (fun hn => ?_)
            · have hn' : isF (accF s a 2 (2 - 1)) = false := by simpa using hn
              simp (implicitDefEqProofs := false) (disch := omega) only [go_sem, reduceCtorEq, Nat.reduceEqDiff, Nat.reduceBEq, ↓reduceIte, Nat.reduceGT, Nat.reduceAdd, Int.reduceEq, Int.reduceLT, Int.reduceLE, Int.reduceNeg, Int.reduceAdd, Int.reduceSub, Int.reduceMul, Int.reduceDiv, Int.reduceMod, Nat.reduceLT, Nat.reduceLeDiff, Nat.reduceMul, Nat.reduceSub, Int.reduceToNat, go_sem, ↓ix_enc, encI_len, encI_take, Nat.le_refl]
              refine ⟨⟨3, by omega, by omega, ?_⟩, by simp only; omega, ?_⟩
              · rw [g3]
                simp only [firstF]
                rw [if_neg (by omega), hn', Bool.false_and]
                rfl
              · refine ⟨?_, ?_, ?_, ?_, ?_, ?_, ?_⟩ <;> simp only [mem_cons_, mem_nil_, lkp, hold_eq, b_some, frz_self, frz1_self, frzL_self, frzO_self, frzO_box, frzO_iter, frzL_cons, frzL_nil, frz_agg, frz1_row, frz1_nil, frz1_val, frz1_sl, frz1_rr, frz1_ptr, frz1_ms, frz_val, frz_sl, frz_row, frz_ptr, frz_ms, frz_fp, frz_tup, frz_fn, PV.lt, PV.ltL, PObj.lt, decide_true, Bool.and_true, Bool.and_self, Nat.reduceLT, Nat.reduceLeDiff, Nat.reduceEqDiff, if_true, if_false, ↓reduceIte, and_true, true_and, Nat.zero_le, reduceCtorEq, eq_self, decide_eq_true_eq, Int.cast_ofNat_Int] <;> try first | omega | ((repeat' (first | exact And.intro rfl (by omega) | (refine And.intro ?_ ?_))) <;> first | rfl | omega | (congr 3; omega) | (congr 2; omega))
            · have hn' : isF (accF s a 2 (2 - 1)) = true := by simpa using hn
              have hp : 0 ≤ accF s a 2 (2 - 1) ∧ accF s a 2 (2 - 1) ≤ 1114111 := by
                unfold isF at hn'
                simp only [decide_eq_true_eq] at hn'
                omega
              simp only [Nat.reduceSub] at hp
              simp (implicitDefEqProofs := false) (disch := omega) only [go_sem, reduceCtorEq, Nat.reduceEqDiff, Nat.reduceBEq, ↓reduceIte, Nat.reduceGT, Nat.reduceAdd, Int.reduceEq, Int.reduceLT, Int.reduceLE, Int.reduceNeg, Int.reduceAdd, Int.reduceSub, Int.reduceMul, Int.reduceDiv, Int.reduceMod, Nat.reduceLT, Nat.reduceLeDiff, Nat.reduceMul, Nat.reduceSub, Int.reduceToNat, go_sem, ↓ix_enc, encI_len, encI_take, Nat.le_refl]
              with_reducible refine CallOk.of (bytes_ok _ hp.1 hp.2) rfl ?_
              simp (implicitDefEqProofs := false) (disch := omega) only [go_sem, reduceCtorEq, Nat.reduceEqDiff, Nat.reduceBEq, ↓reduceIte, Nat.reduceGT, Nat.reduceAdd, Int.reduceEq, Int.reduceLT, Int.reduceLE, Int.reduceNeg, Int.reduceAdd, Int.reduceSub, Int.reduceMul, Int.reduceDiv, Int.reduceMod, Nat.reduceLT, Nat.reduceLeDiff, Nat.reduceMul, Nat.reduceSub, Int.reduceToNat, go_sem, ↓ix_enc, encI_len, encI_take, Nat.le_refl]
              refine p_loop (ι := { j : Nat // j ≤ 2 }) (fun j => ⟨[(12, vI j.1), (11, vB (sameF (bytesF (accF s a 2 (2 - 1))) s a 2 j.1)), (10, .sl (encI (bytesF (accF s a 2 (2 - 1))))), (8, vI (accF s a 2 (2 - 1))), (6, vI 2), (0, vS s), (1, vI a)], [], [], 9, 9⟩) (fun j => 2 - j.1) ⟨0, by omega⟩ ?_ ?_
              · simp only [sameF, Int.cast_ofNat_Int, Int.natCast_one]
                refine ⟨?_, ?_, ?_, ?_, ?_, ?_, ?_⟩ <;> simp only [mem_cons_, mem_nil_, lkp, hold_eq, b_some, frz_self, frz1_self, frzL_self, frzO_self, frzO_box, frzO_iter, frzL_cons, frzL_nil, frz_agg, frz1_row, frz1_nil, frz1_val, frz1_sl, frz1_rr, frz1_ptr, frz1_ms, frz_val, frz_sl, frz_row, frz_ptr, frz_ms, frz_fp, frz_tup, frz_fn, PV.lt, PV.ltL, PObj.lt, decide_true, Bool.and_true, Bool.and_self, Nat.reduceLT, Nat.reduceLeDiff, Nat.reduceEqDiff, if_true, if_false, ↓reduceIte, and_true, true_and, Nat.zero_le, reduceCtorEq, eq_self, decide_eq_true_eq, Int.natCast_zero] <;> try first | omega | ((repeat' (first | exact And.intro rfl (by omega) | (refine And.intro ?_ ?_))) <;> first | rfl | omega | (congr 3; omega) | (congr 2; omega))
              · rintro ⟨j, hj⟩
                simp only
                generalize hbs : bytesF (accF s a 2 (2 - 1)) = B at *
                have hbj := bt_range s (a + j)
                simp (implicitDefEqProofs := false) (disch := omega) only [go_sem, reduceCtorEq, Nat.reduceEqDiff, Nat.reduceBEq, ↓reduceIte, Nat.reduceGT, Nat.reduceAdd, Int.reduceEq, Int.reduceLT, Int.reduceLE, Int.reduceNeg, Int.reduceAdd, Int.reduceSub, Int.reduceMul, Int.reduceDiv, Int.reduceMod, Nat.reduceLT, Nat.reduceLeDiff, Nat.reduceMul, Nat.reduceSub, Int.reduceToNat, go_sem, ↓ix_enc, encI_len, encI_take, Nat.le_refl]
                with_reducible refine ifK_bsplit (fun hs1 => ?_) (fun hs1 => ?_)
                · have hlen := sameF_len hs1
                  simp (implicitDefEqProofs := false) (disch := omega) only [go_sem, reduceCtorEq, Nat.reduceEqDiff, Nat.reduceBEq, ↓reduceIte, Nat.reduceGT, Nat.reduceAdd, Int.reduceEq, Int.reduceLT, Int.reduceLE, Int.reduceNeg, Int.reduceAdd, Int.reduceSub, Int.reduceMul, Int.reduceDiv, Int.reduceMod, Nat.reduceLT, Nat.reduceLeDiff, Nat.reduceMul, Nat.reduceSub, Int.reduceToNat, go_sem, ↓ix_enc, encI_len, encI_take, Nat.le_refl, hs1]
                  with_reducible refine ifK_split (fun hj1 => ?_) (fun hj1 => ?_)
                  · simp (implicitDefEqProofs := false) (disch := omega) only [go_sem, reduceCtorEq, Nat.reduceEqDiff, Nat.reduceBEq, ↓reduceIte, Nat.reduceGT, Nat.reduceAdd, Int.reduceEq, Int.reduceLT, Int.reduceLE, Int.reduceNeg, Int.reduceAdd, Int.reduceSub, Int.reduceMul, Int.reduceDiv, Int.reduceMod, Nat.reduceLT, Nat.reduceLeDiff, Nat.reduceMul, Nat.reduceSub, Int.reduceToNat, go_sem, ↓ix_enc, encI_len, encI_take, Nat.le_refl, hs1]
                    have e3 : sameF B s a 2 (j + 1) = decide (B.getD j 0 = bt s (a + j)) := by simp only [sameF, hs1, Bool.true_and]
                    refine ⟨⟨j + 1, by omega⟩, by simp only; omega, ?_⟩
                    simp only [e3]
                    refine ⟨?_, ?_, ?_, ?_, ?_, ?_, ?_⟩ <;> simp only [mem_cons_, mem_nil_, lkp, hold_eq, b_some, frz_self, frz1_self, frzL_self, frzO_self, frzO_box, frzO_iter, frzL_cons, frzL_nil, frz_agg, frz1_row, frz1_nil, frz1_val, frz1_sl, frz1_rr, frz1_ptr, frz1_ms, frz_val, frz_sl, frz_row, frz_ptr, frz_ms, frz_fp, frz_tup, frz_fn, PV.lt, PV.ltL, PObj.lt, decide_true, Bool.and_true, Bool.and_self, Nat.reduceLT, Nat.reduceLeDiff, Nat.reduceEqDiff, if_true, if_false, ↓reduceIte, and_true, true_and, Nat.zero_le, reduceCtorEq, eq_self, decide_eq_true_eq, Int.natCast_add, Int.natCast_one] <;> try first | omega | ((repeat' (first | exact And.intro rfl (by omega) | (refine And.intro ?_ ?_))) <;> first | rfl | omega | (congr 3; omega) | (congr 2; omega))
                  · have hj2 : j = 2 := by omega
                    subst hj2
                    simp (implicitDefEqProofs := false) (disch := omega) only [go_sem, reduceCtorEq, Nat.reduceEqDiff, Nat.reduceBEq, ↓reduceIte, Nat.reduceGT, Nat.reduceAdd, Int.reduceEq, Int.reduceLT, Int.reduceLE, Int.reduceNeg, Int.reduceAdd, Int.reduceSub, Int.reduceMul, Int.reduceDiv, Int.reduceMod, Nat.reduceLT, Nat.reduceLeDiff, Nat.reduceMul, Nat.reduceSub, Int.reduceToNat, go_sem, ↓ix_enc, encI_len, encI_take, Nat.le_refl, hs1, Try.results62]
                    rw [g3]
                    simp only [firstF]
                    rw [if_neg (by omega), hn', hbs, hs1]
                    rfl
                · have hs2 := sameF_false hs1 (2 - j)
                  rw [show j + (2 - j) = 2 by omega] at hs2
                  simp (implicitDefEqProofs := false) (disch := omega) only [go_sem, reduceCtorEq, Nat.reduceEqDiff, Nat.reduceBEq, ↓reduceIte, Nat.reduceGT, Nat.reduceAdd, Int.reduceEq, Int.reduceLT, Int.reduceLE, Int.reduceNeg, Int.reduceAdd, Int.reduceSub, Int.reduceMul, Int.reduceDiv, Int.reduceMod, Nat.reduceLT, Nat.reduceLeDiff, Nat.reduceMul, Nat.reduceSub, Int.reduceToNat, go_sem, ↓ix_enc, encI_len, encI_take, Nat.le_refl, hs1]
                  refine ⟨⟨3, by omega, by omega, ?_⟩, by simp only; omega, ?_⟩
                  · rw [g3]
                    simp only [firstF]
                    rw [if_neg (by omega), hn', hbs, hs2]
                    rfl
                  · refine ⟨?_, ?_, ?_, ?_, ?_, ?_, ?_⟩ <;> simp only [mem_cons_, mem_nil_, lkp, hold_eq, b_some, frz_self, frz1_self, frzL_self, frzO_self, frzO_box, frzO_iter, frzL_cons, frzL_nil, frz_agg, frz1_row, frz1_nil, frz1_val, frz1_sl, frz1_rr, frz1_ptr, frz1_ms, frz_val, frz_sl, frz_row, frz_ptr, frz_ms, frz_fp, frz_tup, frz_fn, PV.lt, PV.ltL, PObj.lt, decide_true, Bool.and_true, Bool.and_self, Nat.reduceLT, Nat.reduceLeDiff, Nat.reduceEqDiff, if_true, if_false, ↓reduceIte, and_true, true_and, Nat.zero_le, reduceCtorEq, eq_self, decide_eq_true_eq, Int.cast_ofNat_Int] <;> try first | omega | ((repeat' (first | exact And.intro rfl (by omega) | (refine And.intro ?_ ?_))) <;> first | rfl | omega | (congr 3; omega) | (congr 2; omega))
    · simp only [Int.cast_ofNat_Int]
      simp (implicitDefEqProofs := false) (disch := omega) only [go_sem, reduceCtorEq, Nat.reduceEqDiff, Nat.reduceBEq, ↓reduceIte, Nat.reduceGT, Nat.reduceAdd, Int.reduceEq, Int.reduceLT, Int.reduceLE, Int.reduceNeg, Int.reduceAdd, Int.reduceSub, Int.reduceMul, Int.reduceDiv, Int.reduceMod, Nat.reduceLT, Nat.reduceLeDiff, Nat.reduceMul, Nat.reduceSub, Int.reduceToNat, go_sem, ↓ix_enc, encI_len, encI_take, Nat.le_refl]
      with_reducible refine ifK_split (fun hge => ?_) (fun hlt => ?_)
      · simp (implicitDefEqProofs := false) (disch := omega) only [go_sem, reduceCtorEq, Nat.reduceEqDiff, Nat.reduceBEq, ↓reduceIte, Nat.reduceGT, Nat.reduceAdd, Int.reduceEq, Int.reduceLT, Int.reduceLE, Int.reduceNeg, Int.reduceAdd, Int.reduceSub, Int.reduceMul, Int.reduceDiv, Int.reduceMod, Nat.reduceLT, Nat.reduceLeDiff, Nat.reduceMul, Nat.reduceSub, Int.reduceToNat, go_sem, ↓ix_enc, encI_len, encI_take, Nat.le_refl, Try.results62]
        rw [g3]
        simp only [firstF]
        rw [if_pos (by omega)]
      · have hb := bt_range s a
        simp (implicitDefEqProofs := false) (disch := omega) only [go_sem, reduceCtorEq, Nat.reduceEqDiff, Nat.reduceBEq, ↓reduceIte, Nat.reduceGT, Nat.reduceAdd, Int.reduceEq, Int.reduceLT, Int.reduceLE, Int.reduceNeg, Int.reduceAdd, Int.reduceSub, Int.reduceMul, Int.reduceDiv, Int.reduceMod, Nat.reduceLT, Nat.reduceLeDiff, Nat.reduceMul, Nat.reduceSub, Int.reduceToNat, go_sem, ↓ix_enc, encI_len, encI_take, Nat.le_refl]
        refine p_loop (ι := { i : Nat // i < 3 }) (fun i => ⟨[(9, vI (i.1 + 1 : Nat)), (8, vI (accF s a 3 i.1)), (6, vI 3), (0, vS s), (1, vI a)], [], [], 9, 9⟩) (fun i => 3 - i.1) ⟨0, by omega⟩ ?_ ?_
        · simp only [accF, headF]
          refine ⟨?_, ?_, ?_, ?_, ?_, ?_, ?_⟩ <;> simp only [mem_cons_, mem_nil_, lkp, hold_eq, b_some, frz_self, frz1_self, frzL_self, frzO_self, frzO_box, frzO_iter, frzL_cons, frzL_nil, frz_agg, frz1_row, frz1_nil, frz1_val, frz1_sl, frz1_rr, frz1_ptr, frz1_ms, frz_val, frz_sl, frz_row, frz_ptr, frz_ms, frz_fp, frz_tup, frz_fn, PV.lt, PV.ltL, PObj.lt, decide_true, Bool.and_true, Bool.and_self, Nat.reduceLT, Nat.reduceLeDiff, Nat.reduceEqDiff, if_true, if_false, ↓reduceIte, and_true, true_and, Nat.zero_le, reduceCtorEq, eq_self, decide_eq_true_eq, Int.natCast_one, Nat.zero_add] <;> try first | omega | ((repeat' (first | exact And.intro rfl (by omega) | (refine And.intro ?_ ?_))) <;> first | rfl | omega | (congr 3; omega) | (congr 2; omega))
        · rintro ⟨i, hi⟩
          simp only
          have hacc := accF_range s a 3 i (by omega)
          simp (implicitDefEqProofs := false) (disch := omega) only [go_sem, reduceCtorEq, Nat.reduceEqDiff, Nat.reduceBEq, ↓reduceIte, Nat.reduceGT, Nat.reduceAdd, Int.reduceEq, Int.reduceLT, Int.reduceLE, Int.reduceNeg, Int.reduceAdd, Int.reduceSub, Int.reduceMul, Int.reduceDiv, Int.reduceMod, Nat.reduceLT, Nat.reduceLeDiff, Nat.reduceMul, Nat.reduceSub, Int.reduceToNat, go_sem, ↓ix_enc, encI_len, encI_take, Nat.le_refl]
          with_reducible refine ifK_split (fun hlt2 => ?_) (fun hge2 => ?_)
          · have hacc2 := accF_range s a 3 (i + 1) (by omega)
            have hb2 := bt_range s (a + (i + 1 : Nat))
            have e2 : accF s a 3 (i + 1) = accF s a 3 i * 64 + bt s (a + (i + 1 : Nat)) - 128 := by simp only [accF]; rfl
            simp (implicitDefEqProofs := false) (disch := omega) only [go_sem, reduceCtorEq, Nat.reduceEqDiff, Nat.reduceBEq, ↓reduceIte, Nat.reduceGT, Nat.reduceAdd, Int.reduceEq, Int.reduceLT, Int.reduceLE, Int.reduceNeg, Int.reduceAdd, Int.reduceSub, Int.reduceMul, Int.reduceDiv, Int.reduceMod, Nat.reduceLT, Nat.reduceLeDiff, Nat.reduceMul, Nat.reduceSub, Int.reduceToNat, go_sem, ↓ix_enc, encI_len, encI_take, Nat.le_refl]
            refine ⟨⟨i + 1, by omega⟩, by simp only; omega, ?_⟩
            simp only [e2]
            refine ⟨?_, ?_, ?_, ?_, ?_, ?_, ?_⟩ <;> simp only [mem_cons_, mem_nil_, lkp, hold_eq, b_some, frz_self, frz1_self, frzL_self, frzO_self, frzO_box, frzO_iter, frzL_cons, frzL_nil, frz_agg, frz1_row, frz1_nil, frz1_val, frz1_sl, frz1_rr, frz1_ptr, frz1_ms, frz_val, frz_sl, frz_row, frz_ptr, frz_ms, frz_fp, frz_tup, frz_fn, PV.lt, PV.ltL, PObj.lt, decide_true, Bool.and_true, Bool.and_self, Nat.reduceLT, Nat.reduceLeDiff, Nat.reduceEqDiff, if_true, if_false, ↓reduceIte, and_true, true_and, Nat.zero_le, reduceCtorEq, eq_self, decide_eq_true_eq, Int.natCast_add, Int.natCast_one] <;> try first | omega | ((repeat' (first | exact And.intro rfl (by omega) | (refine And.intro ?_ ?_))) <;> first | rfl | omega | (congr 3; omega) | (congr 2; omega))
          · have hi2 : i = 3 - 1 := by omega
            subst hi2
            simp only [Nat.reduceSub] at hacc ⊢
            simp (implicitDefEqProofs := false) (disch := omega) only [go_sem, reduceCtorEq, Nat.reduceEqDiff, Nat.reduceBEq, ↓reduceIte, Nat.reduceGT, Nat.reduceAdd, Int.reduceEq, Int.reduceLT, Int.reduceLE, Int.reduceNeg, Int.reduceAdd, Int.reduceSub, Int.reduceMul, Int.reduceDiv, Int.reduceMod, Nat.reduceLT, Nat.reduceLeDiff, Nat.reduceMul, Nat.reduceSub, Int.reduceToNat, go_sem, ↓ix_enc, encI_len, encI_take, Nat.le_refl]
            with_reducible refine CallOk.of (ris_ok _) rfl ?_
            simp (implicitDefEqProofs := false) (disch := omega) only [go_sem, reduceCtorEq, Nat.reduceEqDiff, Nat.reduceBEq, ↓reduceIte, Nat.reduceGT, Nat.reduceAdd, Int.reduceEq, Int.reduceLT, Int.reduceLE, Int.reduceNeg, Int.reduceAdd, Int.reduceSub, Int.reduceMul, Int.reduceDiv, Int.reduceMod, Nat.reduceLT, Nat.reduceLeDiff, Nat.reduceMul, Nat.reduceSub, Int.reduceToNat, go_sem, ↓ix_enc, encI_len, encI_take, Nat.le_refl]
            with_reducible refine ifK_bsplit (fun hn => ?_) (fun hn => ?_)
            · have hn' : isF (accF s a 3 (3 - 1)) = false := by simpa using hn
              simp (implicitDefEqProofs := false) (disch := omega) only [go_sem, reduceCtorEq, Nat.reduceEqDiff, Nat.reduceBEq, ↓reduceIte, Nat.reduceGT, Nat.reduceAdd, Int.reduceEq, Int.reduceLT, Int.reduceLE, Int.reduceNeg, Int.reduceAdd, Int.reduceSub, Int.reduceMul, Int.reduceDiv, Int.reduceMod, Nat.reduceLT, Nat.reduceLeDiff, Nat.reduceMul, Nat.reduceSub, Int.reduceToNat, go_sem, ↓ix_enc, encI_len, encI_take, Nat.le_refl]
              refine ⟨⟨4, by omega, by omega, ?_⟩, by simp only; omega, ?_⟩
              · rw [g3]
                simp only [firstF]
                rw [if_neg (by omega), hn', Bool.false_and]
                rfl
              · refine ⟨?_, ?_, ?_, ?_, ?_, ?_, ?_⟩ <;> simp only [mem_cons_, mem_nil_, lkp, hold_eq, b_some, frz_self, frz1_self, frzL_self, frzO_self, frzO_box, frzO_iter, frzL_cons, frzL_nil, frz_agg, frz1_row, frz1_nil, frz1_val, frz1_sl, frz1_rr, frz1_ptr, frz1_ms, frz_val, frz_sl, frz_row, frz_ptr, frz_ms, frz_fp, frz_tup, frz_fn, PV.lt, PV.ltL, PObj.lt, decide_true, Bool.and_true, Bool.and_self, Nat.reduceLT, Nat.reduceLeDiff, Nat.reduceEqDiff, if_true, if_false, ↓reduceIte, and_true, true_and, Nat.zero_le, reduceCtorEq, eq_self, decide_eq_true_eq, Int.cast_ofNat_Int] <;> try first | omega | ((repeat' (first | exact And.intro rfl (by omega) | (refine And.intro ?_ ?_))) <;> first | rfl | omega | (congr 3; omega) | (congr 2; omega))
            · have hn' : isF (accF s a 3 (3 - 1)) = true := by simpa using hn
              have hp : 0 ≤ accF s a 3 (3 - 1) ∧ accF s a 3 (3 - 1) ≤ 1114111 := by
                unfold isF at hn'
                simp only [decide_eq_true_eq] at hn'
                omega
              simp only [Nat.reduceSub] at hp
              simp (implicitDefEqProofs := false) (disch := omega) only [go_sem, reduceCtorEq, Nat.reduceEqDiff, Nat.reduceBEq, ↓reduceIte, Nat.reduceGT, Nat.reduceAdd, Int.reduceEq, Int.reduceLT, Int.reduceLE, Int.reduceNeg, Int.reduceAdd, Int.reduceSub, Int.reduceMul, Int.reduceDiv, Int.reduceMod, Nat.reduceLT, Nat.reduceLeDiff, Nat.reduceMul, Nat.reduceSub, Int.reduceToNat, go_sem, ↓ix_enc, encI_len, encI_take, Nat.le_refl]
              with_reducible refine CallOk.of (bytes_ok _ hp.1 hp.2) rfl ?_
              simp (implicitDefEqProofs := false) (disch := omega) only [go_sem, reduceCtorEq, Nat.reduceEqDiff, Nat.reduceBEq, ↓reduceIte, Nat.reduceGT, Nat.reduceAdd, Int.reduceEq, Int.reduceLT, Int.reduceLE, Int.reduceNeg, Int.reduceAdd, Int.reduceSub, Int.reduceMul, Int.reduceDiv, Int.reduceMod, Nat.reduceLT, Nat.reduceLeDiff, Nat.reduceMul, Nat.reduceSub, Int.reduceToNat, go_sem, ↓ix_enc, encI_len, encI_take, Nat.le_refl]
              refine p_loop (ι := { j : Nat // j ≤ 3 }) (fun j => ⟨[(12, vI j.1), (11, vB (sameF (bytesF (accF s a 3 (3 - 1))) s a 3 j.1)), (10, .sl (encI (bytesF (accF s a 3 (3 - 1))))), (8, vI (accF s a 3 (3 - 1))), (6, vI 3), (0, vS s), (1, vI a)], [], [], 9, 9⟩) (fun j => 3 - j.1) ⟨0, by omega⟩ ?_ ?_
              · simp only [sameF, Int.cast_ofNat_Int, Int.natCast_one]
                refine ⟨?_, ?_, ?_, ?_, ?_, ?_, ?_⟩ <;> simp only [mem_cons_, mem_nil_, lkp, hold_eq, b_some, frz_self, frz1_self, frzL_self, frzO_self, frzO_box, frzO_iter, frzL_cons, frzL_nil, frz_agg, frz1_row, frz1_nil, frz1_val, frz1_sl, frz1_rr, frz1_ptr, frz1_ms, frz_val, frz_sl, frz_row, frz_ptr, frz_ms, frz_fp, frz_tup, frz_fn, PV.lt, PV.ltL, PObj.lt, decide_true, Bool.and_true, Bool.and_self, Nat.reduceLT, Nat.reduceLeDiff, Nat.reduceEqDiff, if_true, if_false, ↓reduceIte, and_true, true_and, Nat.zero_le, reduceCtorEq, eq_self, decide_eq_true_eq, Int.natCast_zero] <;> try first | omega | ((repeat' (first | exact And.intro rfl (by omega) | (refine And.intro ?_ ?_))) <;> first | rfl | omega | (congr 3; omega) | (congr 2; omega))
              · rintro ⟨j, hj⟩
                simp only
                generalize hbs : bytesF (accF s a 3 (3 - 1)) = B at *
                have hbj := bt_range s (a + j)
                simp (implicitDefEqProofs := false) (disch := omega) only [go_sem, reduceCtorEq, Nat.reduceEqDiff, Nat.reduceBEq, ↓reduceIte, Nat.reduceGT, Nat.reduceAdd, Int.reduceEq, Int.reduceLT, Int.reduceLE, Int.reduceNeg, Int.reduceAdd, Int.reduceSub, Int.reduceMul, Int.reduceDiv, Int.reduceMod, Nat.reduceLT, Nat.reduceLeDiff, Nat.reduceMul, Nat.reduceSub, Int.reduceToNat, go_sem, ↓ix_enc, encI_len, encI_take, Nat.le_refl]
                with_reducible refine ifK_bsplit (fun hs1 => ?_) (fun hs1 => ?_)
                · have hlen := sameF_len hs1
                  simp (implicitDefEqProofs := false) (disch := omega) only [go_sem, reduceCtorEq, Nat.reduceEqDiff, Nat.reduceBEq, ↓reduceIte, Nat.reduceGT, Nat.reduceAdd, Int.reduceEq, Int.reduceLT, Int.reduceLE, Int.reduceNeg, Int.reduceAdd, Int.reduceSub, Int.reduceMul, Int.reduceDiv, Int.reduceMod, Nat.reduceLT, Nat.reduceLeDiff, Nat.reduceMul, Nat.reduceSub, Int.reduceToNat, go_sem, ↓ix_enc, encI_len, encI_take, Nat.le_refl, hs1]
                  with_reducible refine ifK_split (fun hj1 => ?_) (fun hj1 => ?_)
                  · simp (implicitDefEqProofs := false) (disch := omega) only [go_sem, reduceCtorEq, Nat.reduceEqDiff, Nat.reduceBEq, ↓reduceIte, Nat.reduceGT, Nat.reduceAdd, Int.reduceEq, Int.reduceLT, Int.reduceLE, Int.reduceNeg, Int.reduceAdd, Int.reduceSub, Int.reduceMul, Int.reduceDiv, Int.reduceMod, Nat.reduceLT, Nat.reduceLeDiff, Nat.reduceMul, Nat.reduceSub, Int.reduceToNat, go_sem, ↓ix_enc, encI_len, encI_take, Nat.le_refl, hs1]
                    have e3 : sameF B s a 3 (j + 1) = decide (B.getD j 0 = bt s (a + j)) := by simp only [sameF, hs1, Bool.true_and]
                    refine ⟨⟨j + 1, by omega⟩, by simp only; omega, ?_⟩
                    simp only [e3]
                    refine ⟨?_, ?_, ?_, ?_, ?_, ?_, ?_⟩ <;> simp only [mem_cons_, mem_nil_, lkp, hold_eq, b_some, frz_self, frz1_self, frzL_self, frzO_self, frzO_box, frzO_iter, frzL_cons, frzL_nil, frz_agg, frz1_row, frz1_nil, frz1_val, frz1_sl, frz1_rr, frz1_ptr, frz1_ms, frz_val, frz_sl, frz_row, frz_ptr, frz_ms, frz_fp, frz_tup, frz_fn, PV.lt, PV.ltL, PObj.lt, decide_true, Bool.and_true, Bool.and_self, Nat.reduceLT, Nat.reduceLeDiff, Nat.reduceEqDiff, if_true, if_false, ↓reduceIte, and_true, true_and, Nat.zero_le, reduceCtorEq, eq_self, decide_eq_true_eq, Int.natCast_add, Int.natCast_one] <;> try first | omega | ((repeat' (first | exact And.intro rfl (by omega) | (refine And.intro ?_ ?_))) <;> first | rfl | omega | (congr 3; omega) | (congr 2; omega))
                  · have hj2 : j = 3 := by omega
                    subst hj2
                    simp (implicitDefEqProofs := false) (disch := omega) only [go_sem, reduceCtorEq, Nat.reduceEqDiff, Nat.reduceBEq, ↓reduceIte, Nat.reduceGT, Nat.reduceAdd, Int.reduceEq, Int.reduceLT, Int.reduceLE, Int.reduceNeg, Int.reduceAdd, Int.reduceSub, Int.reduceMul, Int.reduceDiv, Int.reduceMod, Nat.reduceLT, Nat.reduceLeDiff, Nat.reduceMul, Nat.reduceSub, Int.reduceToNat, go_sem, ↓ix_enc, encI_len, encI_take, Nat.le_refl, hs1, Try.results62]
                    rw [g3]
                    simp only [firstF]
                    rw [if_neg (by omega), hn', hbs, hs1]
                    rfl
                · have hs2 := sameF_false hs1 (3 - j)
                  rw [show j + (3 - j) = 3 by omega] at hs2
                  simp (implicitDefEqProofs := false) (disch := omega) only [go_sem, reduceCtorEq, Nat.reduceEqDiff, Nat.reduceBEq, ↓reduceIte, Nat.reduceGT, Nat.reduceAdd, Int.reduceEq, Int.reduceLT, Int.reduceLE, Int.reduceNeg, Int.reduceAdd, Int.reduceSub, Int.reduceMul, Int.reduceDiv, Int.reduceMod, Nat.reduceLT, Nat.reduceLeDiff, Nat.reduceMul, Nat.reduceSub, Int.reduceToNat, go_sem, ↓ix_enc, encI_len, encI_take, Nat.le_refl, hs1]
                  refine ⟨⟨4, by omega, by omega, ?_⟩, by simp only; omega, ?_⟩
                  · rw [g3]
                    simp only [firstF]
                    rw [if_neg (by omega), hn', hbs, hs2]
                    rfl
                  · refine ⟨?_, ?_, ?_, ?_, ?_, ?_, ?_⟩ <;> simp only [mem_cons_, mem_nil_, lkp, hold_eq, b_some, frz_self, frz1_self, frzL_self, frzO_self, frzO_box, frzO_iter, frzL_cons, frzL_nil, frz_agg, frz1_row, frz1_nil, frz1_val, frz1_sl, frz1_rr, frz1_ptr, frz1_ms, frz_val, frz_sl, frz_row, frz_ptr, frz_ms, frz_fp, frz_tup, frz_fn, PV.lt, PV.ltL, PObj.lt, decide_true, Bool.and_true, Bool.and_self, Nat.reduceLT, Nat.reduceLeDiff, Nat.reduceEqDiff, if_true, if_false, ↓reduceIte, and_true, true_and, Nat.zero_le, reduceCtorEq, eq_self, decide_eq_true_eq, Int.cast_ofNat_Int] <;> try first | omega | ((repeat' (first | exact And.intro rfl (by omega) | (refine And.intro ?_ ?_))) <;> first | rfl | omega | (congr 3; omega) | (congr 2; omega))
    · simp only [Int.cast_ofNat_Int]
      simp (implicitDefEqProofs := false) (disch := omega) only [go_sem, reduceCtorEq, Nat.reduceEqDiff, Nat.reduceBEq, ↓reduceIte, Nat.reduceGT, Nat.reduceAdd, Int.reduceEq, Int.reduceLT, Int.reduceLE, Int.reduceNeg, Int.reduceAdd, Int.reduceSub, Int.reduceMul, Int.reduceDiv, Int.reduceMod, Nat.reduceLT, Nat.reduceLeDiff, Nat.reduceMul, Nat.reduceSub, Int.reduceToNat, go_sem, ↓ix_enc, encI_len, encI_take, Nat.le_refl]
      with_reducible refine ifK_split (fun hge => ?_) (fun hlt => ?_)
      · simp (implicitDefEqProofs := false) (disch := omega) only [go_sem, reduceCtorEq, Nat.reduceEqDiff, Nat.reduceBEq, ↓reduceIte, Nat.reduceGT, Nat.reduceAdd, Int.reduceEq, Int.reduceLT, Int.reduceLE, Int.reduceNeg, Int.reduceAdd, Int.reduceSub, Int.reduceMul, Int.reduceDiv, Int.reduceMod, Nat.reduceLT, Nat.reduceLeDiff, Nat.reduceMul, Nat.reduceSub, Int.reduceToNat, go_sem, ↓ix_enc, encI_len, encI_take, Nat.le_refl, Try.results62]
        rw [g3]
        simp only [firstF]
        rw [if_pos (by omega)]
      · have hb := bt_range s a
        simp (implicitDefEqProofs := false) (disch := omega) only [go_sem, reduceCtorEq, Nat.reduceEqDiff, Nat.reduceBEq, ↓reduceIte, Nat.reduceGT, Nat.reduceAdd, Int.reduceEq, Int.reduceLT, Int.reduceLE, Int.reduceNeg, Int.reduceAdd, Int.reduceSub, Int.reduceMul, Int.reduceDiv, Int.reduceMod, Nat.reduceLT, Nat.reduceLeDiff, Nat.reduceMul, Nat.reduceSub, Int.reduceToNat, go_sem, ↓ix_enc, encI_len, encI_take, Nat.le_refl]
        refine p_loop (ι := { i : Nat // i < 4 }) (fun i => ⟨[(9, vI (i.1 + 1 : Nat)), (8, vI (accF s a 4 i.1)), (6, vI 4), (0, vS s), (1, vI a)], [], [], 9, 9⟩) (fun i => 4 - i.1) ⟨0, by omega⟩ ?_ ?_
        · simp only [accF, headF]
          refine ⟨?_, ?_, ?_, ?_, ?_, ?_, ?_⟩ <;> simp only [mem_cons_, mem_nil_, lkp, hold_eq, b_some, frz_self, frz1_self, frzL_self, frzO_self, frzO_box, frzO_iter, frzL_cons, frzL_nil, frz_agg, frz1_row, frz1_nil, frz1_val, frz1_sl, frz1_rr, frz1_ptr, frz1_ms, frz_val, frz_sl, frz_row, frz_ptr, frz_ms, frz_fp, frz_tup, frz_fn, PV.lt, PV.ltL, PObj.lt, decide_true, Bool.and_true, Bool.and_self, Nat.reduceLT, Nat.reduceLeDiff, Nat.reduceEqDiff, if_true, if_false, ↓reduceIte, and_true, true_and, Nat.zero_le, reduceCtorEq, eq_self, decide_eq_true_eq, Int.natCast_one, Nat.zero_add] <;> try first | omega | ((repeat' (first | exact And.intro rfl (by omega) | (refine And.intro ?_ ?_))) <;> first | rfl | omega | (congr 3; omega) | (congr 2; omega))
        · rintro ⟨i, hi⟩
          simp only
          have hacc := accF_range s a 4 i (by omega)
          simp (implicitDefEqProofs := false) (disch := omega) only [go_sem, reduceCtorEq, Nat.reduceEqDiff, Nat.reduceBEq, ↓reduceIte, Nat.reduceGT, Nat.reduceAdd, Int.reduceEq, Int.reduceLT, Int.reduceLE, Int.reduceNeg, Int.reduceAdd, Int.reduceSub, Int.reduceMul, Int.reduceDiv, Int.reduceMod, Nat.reduceLT, Nat.reduceLeDiff, Nat.reduceMul, Nat.reduceSub, Int.reduceToNat, go_sem, ↓ix_enc, encI_len, encI_take, Nat.le_refl]
          with_reducible refine ifK_split (fun hlt2 => ?_) (fun hge2 => ?_)
          · have hacc2 := accF_range s a 4 (i + 1) (by omega)
            have hb2 := bt_range s (a + (i + 1 : Nat))
            have e2 : accF s a 4 (i + 1) = accF s a 4 i * 64 + bt s (a + (i + 1 : Nat)) - 128 := by simp only [accF]; rfl
            simp (implicitDefEqProofs := false) (disch := omega) only [go_sem, reduceCtorEq, Nat.reduceEqDiff, Nat.reduceBEq, ↓reduceIte, Nat.reduceGT, Nat.reduceAdd, Int.reduceEq, Int.reduceLT, Int.reduceLE, Int.reduceNeg, Int.reduceAdd, Int.reduceSub, Int.reduceMul, Int.reduceDiv, Int.reduceMod, Nat.reduceLT, Nat.reduceLeDiff, Nat.reduceMul, Nat.reduceSub, Int.reduceToNat, go_sem, ↓ix_enc, encI_len, encI_take, Nat.le_refl]
            refine ⟨⟨i + 1, by omega⟩, by simp only; omega, ?_⟩
            simp only [e2]
            refine ⟨?_, ?_, ?_, ?_, ?_, ?_, ?_⟩ <;> simp only [mem_cons_, mem_nil_, lkp, hold_eq, b_some, frz_self, frz1_self, frzL_self, frzO_self, frzO_box, frzO_iter, frzL_cons, frzL_nil, frz_agg, frz1_row, frz1_nil, frz1_val, frz1_sl, frz1_rr, frz1_ptr, frz1_ms, frz_val, frz_sl, frz_row, frz_ptr, frz_ms, frz_fp, frz_tup, frz_fn, PV.lt, PV.ltL, PObj.lt, decide_true, Bool.and_true, Bool.and_self, Nat.reduceLT, Nat.reduceLeDiff, Nat.reduceEqDiff, if_true, if_false, ↓reduceIte, and_true, true_and, Nat.zero_le, reduceCtorEq, eq_self, decide_eq_true_eq, Int.natCast_add, Int.natCast_one] <;> try first | omega | ((repeat' (first | exact And.intro rfl (by omega) | (refine And.intro ?_ ?_))) <;> first | rfl | omega | (congr 3; omega) | (congr 2; omega))
          · have hi2 : i = 4 - 1 := by omega
            subst hi2
            simp only [Nat.reduceSub] at hacc ⊢
            simp (implicitDefEqProofs := false) (disch := omega) only [go_sem, reduceCtorEq, Nat.reduceEqDiff, Nat.reduceBEq, ↓reduceIte, Nat.reduceGT, Nat.reduceAdd, Int.reduceEq, Int.reduceLT, Int.reduceLE, Int.reduceNeg, Int.reduceAdd, Int.reduceSub, Int.reduceMul, Int.reduceDiv, Int.reduceMod, Nat.reduceLT, Nat.reduceLeDiff, Nat.reduceMul, Nat.reduceSub, Int.reduceToNat, go_sem, ↓ix_enc, encI_len, encI_take, Nat.le_refl]
            with_reducible refine CallOk.of (ris_ok _) rfl ?_
            simp (implicitDefEqProofs := false) (disch := omega) only [go_sem, reduceCtorEq, Nat.reduceEqDiff, Nat.reduceBEq, ↓reduceIte, Nat.reduceGT, Nat.reduceAdd, Int.reduceEq, Int.reduceLT, Int.reduceLE, Int.reduceNeg, Int.reduceAdd, Int.reduceSub, Int.reduceMul, Int.reduceDiv, Int.reduceMod, Nat.reduceLT, Nat.reduceLeDiff, Nat.reduceMul, Nat.reduceSub, Int.reduceToNat, go_sem, ↓ix_enc, encI_len, encI_take, Nat.le_refl]
            with_reducible refine ifK_bsplit (fun hn => ?_) (fun hn => ?_)
            · have hn' : isF (accF s a 4 (4 - 1)) = false := by simpa using hn
              simp (implicitDefEqProofs := false) (disch := omega) only [go_sem, reduceCtorEq, Nat.reduceEqDiff, Nat.reduceBEq, ↓reduceIte, Nat.reduceGT, Nat.reduceAdd, Int.reduceEq, Int.reduceLT, Int.reduceLE, Int.reduceNeg, Int.reduceAdd, Int.reduceSub, Int.reduceMul, Int.reduceDiv, Int.reduceMod, Nat.reduceLT, Nat.reduceLeDiff, Nat.reduceMul, Nat.reduceSub, Int.reduceToNat, go_sem, ↓ix_enc, encI_len, encI_take, Nat.le_refl]
              refine ⟨⟨5, by omega, by omega, ?_⟩, by simp only; omega, ?_⟩
              · rw [g3]
                simp only [firstF]
                rw [if_neg (by omega), hn', Bool.false_and]
                rfl
              · refine ⟨?_, ?_, ?_, ?_, ?_, ?_, ?_⟩ <;> simp only [mem_cons_, mem_nil_, lkp, hold_eq, b_some, frz_self, frz1_self, frzL_self, frzO_self, frzO_box, frzO_iter, frzL_cons, frzL_nil, frz_agg, frz1_row, frz1_nil, frz1_val, frz1_sl, frz1_rr, frz1_ptr, frz1_ms, frz_val, frz_sl, frz_row, frz_ptr, frz_ms, frz_fp, frz_tup, frz_fn, PV.lt, PV.ltL, PObj.lt, decide_true, Bool.and_true, Bool.and_self, Nat.reduceLT, Nat.reduceLeDiff, Nat.reduceEqDiff, if_true, if_false, ↓reduceIte, and_true, true_and, Nat.zero_le, reduceCtorEq, eq_self, decide_eq_true_eq, Int.cast_ofNat_Int] <;> try first | omega | ((repeat' (first | exact And.intro rfl (by omega) | (refine And.intro ?_ ?_))) <;> first | rfl | omega | (congr 3; omega) | (congr 2; omega))
            · have hn' : isF (accF s a 4 (4 - 1)) = true := by simpa using hn
              have hp : 0 ≤ accF s a 4 (4 - 1) ∧ accF s a 4 (4 - 1) ≤ 1114111 := by
                unfold isF at hn'
                simp only [decide_eq_true_eq] at hn'
                omega
              simp only [Nat.reduceSub] at hp
              simp (implicitDefEqProofs := false) (disch := omega) only [go_sem, reduceCtorEq, Nat.reduceEqDiff, Nat.reduceBEq, ↓reduceIte, Nat.reduceGT, Nat.reduceAdd, Int.reduceEq, Int.reduceLT, Int.reduceLE, Int.reduceNeg, Int.reduceAdd, Int.reduceSub, Int.reduceMul, Int.reduceDiv, Int.reduceMod, Nat.reduceLT, Nat.reduceLeDiff, Nat.reduceMul, Nat.reduceSub, Int.reduceToNat, go_sem, ↓ix_enc, encI_len, encI_take, Nat.le_refl]
              with_reducible refine CallOk.of (bytes_ok _ hp.1 hp.2) rfl ?_
              simp (implicitDefEqProofs := false) (disch := omega) only [go_sem, reduceCtorEq, Nat.reduceEqDiff, Nat.reduceBEq, ↓reduceIte, Nat.reduceGT, Nat.reduceAdd, Int.reduceEq, Int.reduceLT, Int.reduceLE, Int.reduceNeg, Int.reduceAdd, Int.reduceSub, Int.reduceMul, Int.reduceDiv, Int.reduceMod, Nat.reduceLT, Nat.reduceLeDiff, Nat.reduceMul, Nat.reduceSub, Int.reduceToNat, go_sem, ↓ix_enc, encI_len, encI_take, Nat.le_refl]
              refine p_loop (ι := { j : Nat // j ≤ 4 }) (fun j => ⟨[(12, vI j.1), (11, vB (sameF (bytesF (accF s a 4 (4 - 1))) s a 4 j.1)), (10, .sl (encI (bytesF (accF s a 4 (4 - 1))))), (8, vI (accF s a 4 (4 - 1))), (6, vI 4), (0, vS s), (1, vI a)], [], [], 9, 9⟩) (fun j => 4 - j.1) ⟨0, by omega⟩ ?_ ?_
              · simp only [sameF, Int.cast_ofNat_Int, Int.natCast_one]
                refine ⟨?_, ?_, ?_, ?_, ?_, ?_, ?_⟩ <;> simp only [mem_cons_, mem_nil_, lkp, hold_eq, b_some, frz_self, frz1_self, frzL_self, frzO_self, frzO_box, frzO_iter, frzL_cons, frzL_nil, frz_agg, frz1_row, frz1_nil, frz1_val, frz1_sl, frz1_rr, frz1_ptr, frz1_ms, frz_val, frz_sl, frz_row, frz_ptr, frz_ms, frz_fp, frz_tup, frz_fn, PV.lt, PV.ltL, PObj.lt, decide_true, Bool.and_true, Bool.and_self, Nat.reduceLT, Nat.reduceLeDiff, Nat.reduceEqDiff, if_true, if_false, ↓reduceIte, and_true, true_and, Nat.zero_le, reduceCtorEq, eq_self, decide_eq_true_eq, Int.natCast_zero] <;> try first | omega | ((repeat' (first | exact And.intro rfl (by omega) | (refine And.intro ?_ ?_))) <;> first | rfl | omega | (congr 3; omega) | (congr 2; omega))
              · rintro ⟨j, hj⟩
                simp only
                generalize hbs : bytesF (accF s a 4 (4 - 1)) = B at *
                have hbj := bt_range s (a + j)
                simp (implicitDefEqProofs := false) (disch := omega) only [go_sem, reduceCtorEq, Nat.reduceEqDiff, Nat.reduceBEq, ↓reduceIte, Nat.reduceGT, Nat.reduceAdd, Int.reduceEq, Int.reduceLT, Int.reduceLE, Int.reduceNeg, Int.reduceAdd, Int.reduceSub, Int.reduceMul, Int.reduceDiv, Int.reduceMod, Nat.reduceLT, Nat.reduceLeDiff, Nat.reduceMul, Nat.reduceSub, Int.reduceToNat, go_sem, ↓ix_enc, encI_len, encI_take, Nat.le_refl]
                with_reducible refine ifK_bsplit (fun hs1 => ?_) (fun hs1 => ?_)
                · have hlen := sameF_len hs1
                  simp (implicitDefEqProofs := false) (disch := omega) only [go_sem, reduceCtorEq, Nat.reduceEqDiff, Nat.reduceBEq, ↓reduceIte, Nat.reduceGT, Nat.reduceAdd, Int.reduceEq, Int.reduceLT, Int.reduceLE, Int.reduceNeg, Int.reduceAdd, Int.reduceSub, Int.reduceMul, Int.reduceDiv, Int.reduceMod, Nat.reduceLT, Nat.reduceLeDiff, Nat.reduceMul, Nat.reduceSub, Int.reduceToNat, go_sem, ↓ix_enc, encI_len, encI_take, Nat.le_refl, hs1]
                  with_reducible refine ifK_split (fun hj1 => ?_) (fun hj1 => ?_)
                  · simp (implicitDefEqProofs := false) (disch := omega) only [go_sem, reduceCtorEq, Nat.reduceEqDiff, Nat.reduceBEq, ↓reduceIte, Nat.reduceGT, Nat.reduceAdd, Int.reduceEq, Int.reduceLT, Int.reduceLE, Int.reduceNeg, Int.reduceAdd, Int.reduceSub, Int.reduceMul, Int.reduceDiv, Int.reduceMod, Nat.reduceLT, Nat.reduceLeDiff, Nat.reduceMul, Nat.reduceSub, Int.reduceToNat, go_sem, ↓ix_enc, encI_len, encI_take, Nat.le_refl, hs1]
                    have e3 : sameF B s a 4 (j + 1) = decide (B.getD j 0 = bt s (a + j)) := by simp only [sameF, hs1, Bool.true_and]
                    refine ⟨⟨j + 1, by omega⟩, by simp only; omega, ?_⟩
                    simp only [e3]
                    refine ⟨?_, ?_, ?_, ?_, ?_, ?_, ?_⟩ <;> simp only [mem_cons_, mem_nil_, lkp, hold_eq, b_some, frz_self, frz1_self, frzL_self, frzO_self, frzO_box, frzO_iter, frzL_cons, frzL_nil, frz_agg, frz1_row, frz1_nil, frz1_val, frz1_sl, frz1_rr, frz1_ptr, frz1_ms, frz_val, frz_sl, frz_row, frz_ptr, frz_ms, frz_fp, frz_tup, frz_fn, PV.lt, PV.ltL, PObj.lt, decide_true, Bool.and_true, Bool.and_self, Nat.reduceLT, Nat.reduceLeDiff, Nat.reduceEqDiff, if_true, if_false, ↓reduceIte, and_true, true_and, Nat.zero_le, reduceCtorEq, eq_self, decide_eq_true_eq, Int.natCast_add, Int.natCast_one] <;> try first | omega | ((repeat' (first | exact And.intro rfl (by omega) | (refine And.intro ?_ ?_))) <;> first | rfl | omega | (congr 3; omega) | (congr 2; omega))
                  · have hj2 : j = 4 := by omega
                    subst hj2
                    simp (implicitDefEqProofs := false) (disch := omega) only [go_sem, reduceCtorEq, Nat.reduceEqDiff, Nat.reduceBEq, ↓reduceIte, Nat.reduceGT, Nat.reduceAdd, Int.reduceEq, Int.reduceLT, Int.reduceLE, Int.reduceNeg, Int.reduceAdd, Int.reduceSub, Int.reduceMul, Int.reduceDiv, Int.reduceMod, Nat.reduceLT, Nat.reduceLeDiff, Nat.reduceMul, Nat.reduceSub, Int.reduceToNat, go_sem, ↓ix_enc, encI_len, encI_take, Nat.le_refl, hs1, Try.results62]
                    rw [g3]
                    simp only [firstF]
                    rw [if_neg (by omega), hn', hbs, hs1]
                    rfl
                · have hs2 := sameF_false hs1 (4 - j)
                  rw [show j + (4 - j) = 4 by omega] at hs2
                  simp (implicitDefEqProofs := false) (disch := omega) only [go_sem, reduceCtorEq, Nat.reduceEqDiff, Nat.reduceBEq, ↓reduceIte, Nat.reduceGT, Nat.reduceAdd, Int.reduceEq, Int.reduceLT, Int.reduceLE, Int.reduceNeg, Int.reduceAdd, Int.reduceSub, Int.reduceMul, Int.reduceDiv, Int.reduceMod, Nat.reduceLT, Nat.reduceLeDiff, Nat.reduceMul, Nat.reduceSub, Int.reduceToNat, go_sem, ↓ix_enc, encI_len, encI_take, Nat.le_refl, hs1]
                  refine ⟨⟨5, by omega, by omega, ?_⟩, by simp only; omega, ?_⟩
                  · rw [g3]
                    simp only [firstF]
                    rw [if_neg (by omega), hn', hbs, hs2]
                    rfl
                  · refine ⟨?_, ?_, ?_, ?_, ?_, ?_, ?_⟩ <;> simp only [mem_cons_, mem_nil_, lkp, hold_eq, b_some, frz_self, frz1_self, frzL_self, frzO_self, frzO_box, frzO_iter, frzL_cons, frzL_nil, frz_agg, frz1_row, frz1_nil, frz1_val, frz1_sl, frz1_rr, frz1_ptr, frz1_ms, frz_val, frz_sl, frz_row, frz_ptr, frz_ms, frz_fp, frz_tup, frz_fn, PV.lt, PV.ltL, PObj.lt, decide_true, Bool.and_true, Bool.and_self, Nat.reduceLT, Nat.reduceLeDiff, Nat.reduceEqDiff, if_true, if_false, ↓reduceIte, and_true, true_and, Nat.zero_le, reduceCtorEq, eq_self, decide_eq_true_eq, Int.cast_ofNat_Int] <;> try first | omega | ((repeat' (first | exact And.intro rfl (by omega) | (refine And.intro ?_ ?_))) <;> first | rfl | omega | (congr 3; omega) | (congr 2; omega))
    · simp only [Int.cast_ofNat_Int]
      simp (implicitDefEqProofs := false) (disch := omega) only [go_sem, reduceCtorEq, Nat.reduceEqDiff, Nat.reduceBEq, ↓reduceIte, Nat.reduceGT, Nat.reduceAdd, Int.reduceEq, Int.reduceLT, Int.reduceLE, Int.reduceNeg, Int.reduceAdd, Int.reduceSub, Int.reduceMul, Int.reduceDiv, Int.reduceMod, Nat.reduceLT, Nat.reduceLeDiff, Nat.reduceMul, Nat.reduceSub, Int.reduceToNat, go_sem, ↓ix_enc, encI_len, encI_take, Nat.le_refl, Try.results62]
      rw [g3]
      rfl

end Go.Proofs.Ytefhongghmimgaa
