/-
  Contracts and plain laws on the way to the statement; each says its own conditions.
-/
import Derived.Test.YtppefmkknmdfkaaDoorN11
open Go Go.Proofs Go.Pw
namespace Go.Proofs.YtppefmkknmdfkaaDoor
set_option maxRecDepth 4000
set_option linter.unusedSimpArgs false
set_option linter.unusedVariables false
theorem figs_nil (n : Nat) : figs n = [] ↔ n = 0 := by
  constructor
  · intro h
    apply Decidable.byContradiction
    intro hn
    rw [figs_step n hn] at h
    cases h
  · intro h; subst h; exact figs_zero
theorem figs_pos (n : Nat) : 0 < (figs n).length ↔ 0 < n := by
  have := figs_nil n
  rw [← List.length_eq_zero_iff] at this
  omega
theorem clean_rep (b : Bool) {l : List Int} (h : Digs l) : cleanF b l = repN (if b then -valF l else valF l) := by
  have hv := valF_nonneg h
  have hc := canon h
  have hlen := congrArg List.length hc
  have hle : ∀ k, cleanTo l k ≤ k := fun k => by
    induction k with
    | zero => exact Nat.le_refl _
    | succ k ih => rw [cleanTo]; split <;> omega
  rw [List.length_take, Nat.min_eq_left (hle _)] at hlen
  have hp := figs_pos (valF l).toNat
  rw [hlen] at hp
  unfold cleanF repN
  rw [← hc]
  have e : (if b = true then -valF l else valF l).natAbs = (valF l).toNat := by split <;> omega
  rw [e]
  have e2 : (b && decide (0 < cleanTo l l.length)) = decide ((if b = true then -valF l else valF l) < 0) := by
    cases b
    · simp; omega
    · simp only [Bool.true_and, if_true]
      exact decide_eq_decide.2 (by omega)
  rw [e2]
/-- Of at most so many figures. -/
def Fg (k : Nat) (z : Int) : Prop := z.natAbs < 10000 ^ k
/-- Small enough to be reckoned with. -/
def Sm (z : Int) : Prop := ∃ k, k ≤ 9000 ∧ Fg k z
theorem Fg.mono {j k : Nat} {z : Int} (h : Fg j z) (hk : j ≤ k) : Fg k z := Nat.lt_of_lt_of_le h (Nat.pow_le_pow_right (by decide) hk)
theorem Fg.sm {k : Nat} {z : Int} (h : Fg k z) (hk : k ≤ 9000) : Sm z := ⟨k, hk, h⟩
theorem Sm.len {z : Int} (h : Sm z) : (figs z.natAbs).length ≤ 9000 := by
  obtain ⟨k, h1, h2⟩ := h
  exact Nat.le_trans (figs_len k _ h2) h1
theorem Fg.of_fits {z : Int} (h : fits z) : Fg 5 z := by
  unfold fits at h
  exact Nat.lt_of_le_of_lt (show z.natAbs ≤ 9223372036854775808 by omega) (by decide)
theorem Sm.of_fits {z : Int} (h : fits z) : Sm z := (Fg.of_fits h).sm (by decide)
theorem Fg.add {k : Nat} {x y : Int} (h : Fg k x) (g : Fg k y) : Fg (k + 1) (x + y) := by
  unfold Fg at *
  rw [Nat.pow_succ]
  omega
theorem Fg.neg {k : Nat} {x : Int} (h : Fg k x) : Fg k (-x) := by
  unfold Fg at *
  omega
theorem Fg.mul {j k : Nat} {x y : Int} (h : Fg j x) (g : Fg k y) : Fg (j + k) (x * y) := by
  unfold Fg at *
  rw [Int.natAbs_mul, Nat.pow_add]
  exact Nat.mul_lt_mul_of_lt_of_le h (Nat.le_of_lt g) (Nat.pow_pos (by decide))
theorem addF_rep (x y : Int) : addF (decide (x < 0)) (figs x.natAbs) (decide (y < 0)) (figs y.natAbs) = repN (x + y) := by
  have dx := figs_digs x.natAbs
  have dy := figs_digs y.natAbs
  have vx := figs_val x.natAbs
  have vy := figs_val y.natAbs
  unfold addF
  split
  · rename_i h
    have h' := decide_eq_decide.1 h
    obtain ⟨hv, hd⟩ := bothF_add dx dy
    rw [clean_rep _ hd, hv, vx, vy]
    congr 1
    by_cases hx : x < 0 <;> simp [hx] <;> omega
  · rename_i h
    rw [decide_eq_decide] at h
    rw [lessF_figs]
    split
    · rename_i hl
      simp only [decide_eq_true_eq] at hl
      obtain ⟨hv, hd⟩ := bothF_sub dy dx (by omega)
      rw [clean_rep _ hd, hv, vx, vy]
      congr 1
      by_cases hy : y < 0 <;> simp [hy] <;> omega
    · rename_i hl
      simp only [decide_eq_true_eq] at hl
      obtain ⟨hv, hd⟩ := bothF_sub dx dy (by omega)
      rw [clean_rep _ hd, hv, vx, vy]
      congr 1
      by_cases hx : x < 0 <;> simp [hx] <;> omega
theorem add_rep (x y : Int) (hx : Sm x) (hy : Sm y) : Ok Tryd.prog 26 [repN x, repN y] (repN (x + y)) := by
  have lx := hx.len
  have ly := hy.len
  rw [← addF_rep]
  exact add_ok _ _ _ _ (figs_digs _) (figs_digs _) (by omega) (by omega)
theorem neg_rep (x : Int) (hx : Sm x) : Ok Tryd.prog 17 [repN x] (repN (-x)) := by
  have lx := hx.len
  have e : cleanF (!decide (x < 0)) (figs x.natAbs) = repN (-x) := by
    rw [clean_rep _ (figs_digs _), figs_val]
    congr 1
    by_cases h : x < 0 <;> simp [h] <;> omega
  rw [← e]
  exact neg28_ok _ _ (by omega)
theorem of_rep (n : Int) (h : fits n) : Ok Tryd.prog 11 [vI n] (repN n) := of_ok n h.1 h.2
theorem Sm.neg {x : Int} (h : Sm x) : Sm (-x) := by
  obtain ⟨k, h1, h2⟩ := h
  exact ⟨k, h1, h2.neg⟩
set_option maxHeartbeats 1000000 in
theorem less_rep (x y : Int) (hx : Sm x) (hy : Sm y) : Ok Tryd.prog 28 [repN x, repN y] (vB (decide (x < y))) := by
  have e : decide (x + -y < 0) = decide (x < y) := decide_eq_decide.2 (by omega)
  have l0 := neg_rep y hy
  have l1 := add_rep x (-y) hx hy.neg
  rw [← e]
  unfold repN at *
  refine Ok.of_pwp (by kernel_rfl) Tryd.func28 rfl (by kernel_rfl) (by kernel_rfl) ?_
  simp (implicitDefEqProofs := false) (disch := omega) only [go_sem, reduceCtorEq, Nat.reduceEqDiff, Nat.reduceBEq, ↓reduceIte, Nat.reduceGT, Nat.reduceAdd, Int.reduceEq, Int.reduceLT, Int.reduceLE, Int.reduceNeg, Int.reduceAdd, Int.reduceSub, Int.reduceMul, Int.reduceDiv, Int.reduceMod, Nat.reduceLT, Nat.reduceLeDiff, Nat.reduceMul, Nat.reduceSub, Int.reduceToNat, go_sem, Nat.le_refl, ↓ix_enc, encI_len, encI_take, Tryd.results28]
  with_reducible refine CallOk.of l0 rfl ?_
  simp (implicitDefEqProofs := false) (disch := omega) only [go_sem, reduceCtorEq, Nat.reduceEqDiff, Nat.reduceBEq, ↓reduceIte, Nat.reduceGT, Nat.reduceAdd, Int.reduceEq, Int.reduceLT, Int.reduceLE, Int.reduceNeg, Int.reduceAdd, Int.reduceSub, Int.reduceMul, Int.reduceDiv, Int.reduceMod, Nat.reduceLT, Nat.reduceLeDiff, Nat.reduceMul, Nat.reduceSub, Int.reduceToNat, go_sem, Nat.le_refl, ↓ix_enc, encI_len, encI_take, Tryd.results28]
  with_reducible refine CallOk.of l1 rfl ?_
  simp (implicitDefEqProofs := false) (disch := omega) only [go_sem, reduceCtorEq, Nat.reduceEqDiff, Nat.reduceBEq, ↓reduceIte, Nat.reduceGT, Nat.reduceAdd, Int.reduceEq, Int.reduceLT, Int.reduceLE, Int.reduceNeg, Int.reduceAdd, Int.reduceSub, Int.reduceMul, Int.reduceDiv, Int.reduceMod, Nat.reduceLT, Nat.reduceLeDiff, Nat.reduceMul, Nat.reduceSub, Int.reduceToNat, go_sem, Nat.le_refl, ↓ix_enc, encI_len, encI_take, Tryd.results28]
def intTo (a : List Int) : Nat → Int
  | 0 => 0
  | k + 1 => intTo a k * 10000 - a.getD (a.length - (k + 1)) 0
theorem vI_eq {a b : Int} (h : a = b) : vI a = vI b := by rw [h]
theorem intTo_val (a : List Int) : ∀ k, k ≤ a.length → intTo a k = - valF (a.drop (a.length - k))
  | 0, _ => by simp [intTo, valF]
  | k + 1, h => by
    rw [intTo, intTo_val a k (by omega), valF_drop a (a.length - (k + 1)), show a.length - (k + 1) + 1 = a.length - k by omega]
    omega
theorem valF_ge {a : List Int} (h : Digs a) (i : Nat) : 0 ≤ valF (a.drop i) := valF_nonneg (fun x hx => h x (List.mem_of_mem_drop hx))
theorem valF_drop_le {a : List Int} (h : Digs a) : ∀ i, valF (a.drop i) ≤ valF a
  | 0 => by simp
  | i + 1 => by
    have ih := valF_drop_le h i
    have g := (h.get i).1
    have := valF_ge h (i + 1)
    rw [valF_drop a i] at ih
    omega
set_option maxHeartbeats 1000000 in
theorem int_rep (z : Int) (hz : fits z) : Ok Tryd.prog 8 [repN z] (vI z) := by
  have hs := (Sm.of_fits hz).len
  unfold fits at hz
  have hd := figs_digs z.natAbs
  have hv := figs_val z.natAbs
  unfold repN
  generalize figs z.natAbs = a at *
  refine Ok.of_pwp (by kernel_rfl) Tryd.func8 rfl (by kernel_rfl) (by kernel_rfl) ?_
  simp (implicitDefEqProofs := false) (disch := omega) only [go_sem, reduceCtorEq, Nat.reduceEqDiff, Nat.reduceBEq, ↓reduceIte, Nat.reduceGT, Nat.reduceAdd, Int.reduceEq, Int.reduceLT, Int.reduceLE, Int.reduceNeg, Int.reduceAdd, Int.reduceSub, Int.reduceMul, Int.reduceDiv, Int.reduceMod, Nat.reduceLT, Nat.reduceLeDiff, Nat.reduceMul, Nat.reduceSub, Int.reduceToNat, go_sem, Nat.le_refl, ↓ix_enc, encI_len, encI_take, Tryd.results8]
  refine p_loop (ι := { p : Int × Int // -1 ≤ p.1 ∧ p.1 < a.length ∧ p.2 = intTo a (a.length - (p.1 + 1).toNat) })
    (fun p => ⟨[(3, vI p.1.2), (4, vI p.1.1), (1, .ptr 0 0)], [(0, .box 28 [vB (decide (z < 0)), .sl (encI a)])], [], 1, 0⟩) (fun p => (p.1.1 + 1).toNat)
    ⟨((a.length : Int) - 1, 0), by simp only; omega, by simp only; omega, by simp only; rw [show a.length - ((a.length : Int) - 1 + 1).toNat = 0 by omega]; rfl⟩ ?_ ?_
  · refine ⟨?_, ?_, ?_, ?_, ?_, ?_, ?_⟩ <;> simp only [mem_cons_, mem_nil_, lkp, hold_eq, b_some, frz_self, frz1_self, frzL_self, frzO_self, frzO_box, frzO_iter, frzL_cons, frzL_nil, frz_agg, frz1_row, frz1_nil, frz1_val, frz1_sl, frz1_rr, frz1_ptr, frz1_ms, frz_val, frz_sl, frz_row, frz_ptr, frz_ms, frz_fp, frz_tup, frz_fn, PV.lt, PV.ltL, PObj.lt, decide_true, Bool.true_and, Bool.and_true, Bool.and_self, Nat.reduceLT, Nat.reduceLeDiff, Nat.reduceEqDiff, if_true, if_false, ↓reduceIte, and_true, true_and, Nat.zero_le, reduceCtorEq, eq_self]
  · rintro ⟨⟨i, n⟩, h0, h1, h2⟩
    simp only at h0 h1 h2
    have e1 := intTo_val a (a.length - (i + 1).toNat) (by omega)
    have g1 := valF_ge hd (a.length - (a.length - (i + 1).toNat))
    have g2 := valF_drop_le hd (a.length - (a.length - (i + 1).toNat))
    simp (implicitDefEqProofs := false) (disch := omega) only [go_sem, reduceCtorEq, Nat.reduceEqDiff, Nat.reduceBEq, ↓reduceIte, Nat.reduceGT, Nat.reduceAdd, Int.reduceEq, Int.reduceLT, Int.reduceLE, Int.reduceNeg, Int.reduceAdd, Int.reduceSub, Int.reduceMul, Int.reduceDiv, Int.reduceMod, Nat.reduceLT, Nat.reduceLeDiff, Nat.reduceMul, Nat.reduceSub, Int.reduceToNat, go_sem, Nat.le_refl, ↓ix_enc, encI_len, encI_take]
    with_reducible refine ifK_split (fun _ => ?_) (fun _ => ?_)
    · have e2 : intTo a (a.length - (i + 1 - 1 ).toNat) = n * 10000 - a.getD i.toNat 0 := by
        rw [show a.length - (i + 1 - 1).toNat = (a.length - (i + 1).toNat) + 1 by omega, intTo, ← h2]
        congr 2
        omega
      have e3 := intTo_val a (a.length - (i + 1 - 1).toNat) (by omega)
      have g3 := valF_ge hd (a.length - (a.length - (i + 1 - 1).toNat))
      have g4 := valF_drop_le hd (a.length - (a.length - (i + 1 - 1).toNat))
      have g5 := hd.get i.toNat
      simp (implicitDefEqProofs := false) (disch := omega) only [go_sem, reduceCtorEq, Nat.reduceEqDiff, Nat.reduceBEq, ↓reduceIte, Nat.reduceGT, Nat.reduceAdd, Int.reduceEq, Int.reduceLT, Int.reduceLE, Int.reduceNeg, Int.reduceAdd, Int.reduceSub, Int.reduceMul, Int.reduceDiv, Int.reduceMod, Nat.reduceLT, Nat.reduceLeDiff, Nat.reduceMul, Nat.reduceSub, Int.reduceToNat, go_sem, Nat.le_refl, ↓ix_enc, encI_len, encI_take]
      refine ⟨⟨(i - 1, n * 10000 - a.getD i.toNat 0), by simp only; omega, by simp only; omega, ?_⟩, by simp only []; omega, ?_⟩
      · simp only
        rw [← e2]; congr 1; omega
      · refine ⟨?_, ?_, ?_, ?_, ?_, ?_, ?_⟩ <;> simp only [mem_cons_, mem_nil_, lkp, hold_eq, b_some, frz_self, frz1_self, frzL_self, frzO_self, frzO_box, frzO_iter, frzL_cons, frzL_nil, frz_agg, frz1_row, frz1_nil, frz1_val, frz1_sl, frz1_rr, frz1_ptr, frz1_ms, frz_val, frz_sl, frz_row, frz_ptr, frz_ms, frz_fp, frz_tup, frz_fn, PV.lt, PV.ltL, PObj.lt, decide_true, Bool.true_and, Bool.and_true, Bool.and_self, Nat.reduceLT, Nat.reduceLeDiff, Nat.reduceEqDiff, if_true, if_false, ↓reduceIte, and_true, true_and, Nat.zero_le, reduceCtorEq, eq_self]
    · have e4 : n = - (z.natAbs : Int) := by
        rw [h2, e1, show a.length - (a.length - (i + 1).toNat) = 0 by omega, List.drop_zero, hv]
      simp (implicitDefEqProofs := false) (disch := omega) only [go_sem, reduceCtorEq, Nat.reduceEqDiff, Nat.reduceBEq, ↓reduceIte, Nat.reduceGT, Nat.reduceAdd, Int.reduceEq, Int.reduceLT, Int.reduceLE, Int.reduceNeg, Int.reduceAdd, Int.reduceSub, Int.reduceMul, Int.reduceDiv, Int.reduceMod, Nat.reduceLT, Nat.reduceLeDiff, Nat.reduceMul, Nat.reduceSub, Int.reduceToNat, go_sem, Nat.le_refl, ↓ix_enc, encI_len, encI_take]
      with_reducible refine ifK_split (fun _ => ?_) (fun _ => ?_)
      · simp (implicitDefEqProofs := false) (disch := omega) only [go_sem, reduceCtorEq, Nat.reduceEqDiff, Nat.reduceBEq, ↓reduceIte, Nat.reduceGT, Nat.reduceAdd, Int.reduceEq, Int.reduceLT, Int.reduceLE, Int.reduceNeg, Int.reduceAdd, Int.reduceSub, Int.reduceMul, Int.reduceDiv, Int.reduceMod, Nat.reduceLT, Nat.reduceLeDiff, Nat.reduceMul, Nat.reduceSub, Int.reduceToNat, go_sem, Nat.le_refl, ↓ix_enc, encI_len, encI_take]
        exact vI_eq (by omega)
      · simp (implicitDefEqProofs := false) (disch := omega) only [go_sem, reduceCtorEq, Nat.reduceEqDiff, Nat.reduceBEq, ↓reduceIte, Nat.reduceGT, Nat.reduceAdd, Int.reduceEq, Int.reduceLT, Int.reduceLE, Int.reduceNeg, Int.reduceAdd, Int.reduceSub, Int.reduceMul, Int.reduceDiv, Int.reduceMod, Nat.reduceLT, Nat.reduceLeDiff, Nat.reduceMul, Nat.reduceSub, Int.reduceToNat, go_sem, Nat.le_refl, ↓ix_enc, encI_len, encI_take]
        exact vI_eq (by omega)
theorem min_fits : fits (-9223372036854775808) := by decide
theorem max_fits : fits 9223372036854775807 := by decide
set_option maxHeartbeats 1000000 in
theorem fits_rep (z : Int) (hz : Sm z) : Ok Tryd.prog 19 [repN z] (vB (decide (fits z))) := by
  have l0 := of_rep _ min_fits
  have l1 := of_rep _ max_fits
  have l2 := less_rep z _ hz (Sm.of_fits min_fits)
  have l3 := less_rep _ z (Sm.of_fits max_fits) hz
  unfold repN at *
  refine Ok.of_pwp (by kernel_rfl) Tryd.func19 rfl (by kernel_rfl) (by kernel_rfl) ?_
  simp (implicitDefEqProofs := false) (disch := omega) only [go_sem, reduceCtorEq, Nat.reduceEqDiff, Nat.reduceBEq, ↓reduceIte, Nat.reduceGT, Nat.reduceAdd, Int.reduceEq, Int.reduceLT, Int.reduceLE, Int.reduceNeg, Int.reduceAdd, Int.reduceSub, Int.reduceMul, Int.reduceDiv, Int.reduceMod, Nat.reduceLT, Nat.reduceLeDiff, Nat.reduceMul, Nat.reduceSub, Int.reduceToNat, go_sem, Nat.le_refl, ↓ix_enc, encI_len, encI_take, Tryd.results19]
  with_reducible refine CallOk.of l0 rfl ?_
  simp (implicitDefEqProofs := false) (disch := omega) only [go_sem, reduceCtorEq, Nat.reduceEqDiff, Nat.reduceBEq, ↓reduceIte, Nat.reduceGT, Nat.reduceAdd, Int.reduceEq, Int.reduceLT, Int.reduceLE, Int.reduceNeg, Int.reduceAdd, Int.reduceSub, Int.reduceMul, Int.reduceDiv, Int.reduceMod, Nat.reduceLT, Nat.reduceLeDiff, Nat.reduceMul, Nat.reduceSub, Int.reduceToNat, go_sem, Nat.le_refl, ↓ix_enc, encI_len, encI_take, Tryd.results19]
  with_reducible refine CallOk.of l2 rfl ?_
  simp (implicitDefEqProofs := false) (disch := omega) only [go_sem, reduceCtorEq, Nat.reduceEqDiff, Nat.reduceBEq, ↓reduceIte, Nat.reduceGT, Nat.reduceAdd, Int.reduceEq, Int.reduceLT, Int.reduceLE, Int.reduceNeg, Int.reduceAdd, Int.reduceSub, Int.reduceMul, Int.reduceDiv, Int.reduceMod, Nat.reduceLT, Nat.reduceLeDiff, Nat.reduceMul, Nat.reduceSub, Int.reduceToNat, go_sem, Nat.le_refl, ↓ix_enc, encI_len, encI_take, Tryd.results19]
  with_reducible refine ifK_nsplit (fun _ => ?_) (fun _ => ?_)
  · simp (implicitDefEqProofs := false) (disch := omega) only [go_sem, reduceCtorEq, Nat.reduceEqDiff, Nat.reduceBEq, ↓reduceIte, Nat.reduceGT, Nat.reduceAdd, Int.reduceEq, Int.reduceLT, Int.reduceLE, Int.reduceNeg, Int.reduceAdd, Int.reduceSub, Int.reduceMul, Int.reduceDiv, Int.reduceMod, Nat.reduceLT, Nat.reduceLeDiff, Nat.reduceMul, Nat.reduceSub, Int.reduceToNat, go_sem, Nat.le_refl, ↓ix_enc, encI_len, encI_take, Tryd.results19]
    with_reducible refine CallOk.of l1 rfl ?_
    simp (implicitDefEqProofs := false) (disch := omega) only [go_sem, reduceCtorEq, Nat.reduceEqDiff, Nat.reduceBEq, ↓reduceIte, Nat.reduceGT, Nat.reduceAdd, Int.reduceEq, Int.reduceLT, Int.reduceLE, Int.reduceNeg, Int.reduceAdd, Int.reduceSub, Int.reduceMul, Int.reduceDiv, Int.reduceMod, Nat.reduceLT, Nat.reduceLeDiff, Nat.reduceMul, Nat.reduceSub, Int.reduceToNat, go_sem, Nat.le_refl, ↓ix_enc, encI_len, encI_take, Tryd.results19]
    with_reducible refine CallOk.of l3 rfl ?_
    simp (implicitDefEqProofs := false) (disch := omega) only [go_sem, reduceCtorEq, Nat.reduceEqDiff, Nat.reduceBEq, ↓reduceIte, Nat.reduceGT, Nat.reduceAdd, Int.reduceEq, Int.reduceLT, Int.reduceLE, Int.reduceNeg, Int.reduceAdd, Int.reduceSub, Int.reduceMul, Int.reduceDiv, Int.reduceMod, Nat.reduceLT, Nat.reduceLeDiff, Nat.reduceMul, Nat.reduceSub, Int.reduceToNat, go_sem, Nat.le_refl, ↓ix_enc, encI_len, encI_take, Tryd.results19]
    congr 2
    unfold fits
    rw [← decide_not]
    exact decide_eq_decide.2 (by omega)
  · simp (implicitDefEqProofs := false) (disch := omega) only [go_sem, reduceCtorEq, Nat.reduceEqDiff, Nat.reduceBEq, ↓reduceIte, Nat.reduceGT, Nat.reduceAdd, Int.reduceEq, Int.reduceLT, Int.reduceLE, Int.reduceNeg, Int.reduceAdd, Int.reduceSub, Int.reduceMul, Int.reduceDiv, Int.reduceMod, Nat.reduceLT, Nat.reduceLeDiff, Nat.reduceMul, Nat.reduceSub, Int.reduceToNat, go_sem, Nat.le_refl, ↓ix_enc, encI_len, encI_take, Tryd.results19]
    congr 2
    rw [eq_comm, decide_eq_false_iff_not]
    unfold fits
    omega
end Go.Proofs.YtppefmkknmdfkaaDoor
