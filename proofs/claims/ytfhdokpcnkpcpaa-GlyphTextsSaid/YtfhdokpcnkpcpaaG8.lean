/-
  Contracts and plain laws on the way to the statement; each says its own conditions.
-/
import Derived.Test.YtfhdokpcnkpcpaaG7
open Go Go.Proofs Go.Pw
namespace Go.Proofs.Ytfhdokpcnkpcpaa
set_option linter.unusedSimpArgs false
set_option linter.unusedVariables false
/-- The variable that the points are gathered in: object id; its row has number k. -/
def outH (id k : Nat) (xs : List Int) : List (Nat × PObj) := [(id, .box 32 [rowI k xs])]
def seeQ (id nx nt : Nat) (xs : List Int) (r : PV) (st : PS) : Prop := r = .tup [] ∧ ∃ k, nt ≤ st.nt ∧ k < st.nt ∧ st.nx = nx ∧ st.heap = outH id k xs ∧ st.toks = tokI k 3 xs
set_option maxHeartbeats 1000000 in
theorem see_ok (n : Int) (id k nx nt : Nat) (xs : List Int) (hid : id < nx) (hk : xs ≠ [] → k < nt) (hl : xs.length ≤ 2000000) :
    OkI Try.prog 28 [vI n, .ptr id 0] ⟨[], outH id k xs, tokI k 3 xs, nx, nt⟩ (seeQ id nx nt (xs ++ [n])) := by
  refine OkI.of_pwp (by kernel_rfl) Try.func28 rfl (by kernel_rfl) (by kernel_rfl) ?_
  cases xs with
  | nil =>
    simp only [outH, rowI, tokI]
    simp (implicitDefEqProofs := false) (disch := omega) only [go_sem, reduceCtorEq, Nat.reduceEqDiff, Nat.reduceBEq, ↓reduceIte, Nat.reduceGT, Nat.reduceAdd, Int.reduceEq, Int.reduceLT, Int.reduceLE, Int.reduceNeg, Int.reduceAdd, Int.reduceSub, Int.reduceMul, Int.reduceDiv, Int.reduceMod, Nat.reduceLT, Nat.reduceLeDiff, Nat.reduceMul, Nat.reduceSub, Int.reduceToNat, go_sem, ↓ix_enc, encI_len, encI_take, Nat.le_refl, Try.results28]
    refine ⟨⟨[], outH id (nt + 3) [n], tokI (nt + 3) 3 [n], nx, nt + 4⟩, ⟨rfl, nt + 3, by simp only; omega, by simp only; omega, rfl, rfl, rfl⟩, ?_⟩
    simp only [outH, rowI, tokI, ← encI_one]
    refine ⟨?_, ?_, ?_, ?_, ?_, ?_, ?_⟩ <;> simp only [mem_cons_, mem_nil_, lkp, PV.lt, PV.ltL, PObj.lt, decide_true, Bool.and_true, Bool.and_self, Nat.reduceLT, Nat.reduceLeDiff, Nat.reduceEqDiff, if_true, if_false, ↓reduceIte, and_true, true_and, Nat.zero_le, reduceCtorEq, eq_self, decide_eq_true_eq, ite_self, List.length_singleton] <;> try first | omega | ((repeat' (first | exact And.intro rfl (by omega) | (refine And.intro ?_ ?_))) <;> first | rfl | omega | (congr 3; omega) | (congr 2; omega))
  | cons x r =>
    simp only [List.length_cons] at hl
    have hkn : k < nt := hk (by simp)
    simp only [outH, rowI, tokI]
    simp (implicitDefEqProofs := false) (disch := omega) only [go_sem, reduceCtorEq, Nat.reduceEqDiff, Nat.reduceBEq, ↓reduceIte, Nat.reduceGT, Nat.reduceAdd, Int.reduceEq, Int.reduceLT, Int.reduceLE, Int.reduceNeg, Int.reduceAdd, Int.reduceSub, Int.reduceMul, Int.reduceDiv, Int.reduceMod, Nat.reduceLT, Nat.reduceLeDiff, Nat.reduceMul, Nat.reduceSub, Int.reduceToNat, go_sem, ↓ix_enc, encI_len, encI_take, Nat.le_refl, Try.results28]
    refine ⟨⟨[], outH id k (x :: (r ++ [n])), tokI k 3 (x :: (r ++ [n])), nx, nt⟩, ⟨rfl, k, by simp only; omega, by simp only; omega, rfl, rfl, rfl⟩, ?_⟩
    simp only [outH, rowI, tokI]
    refine ⟨?_, ?_, ?_, ?_, ?_, ?_, ?_⟩ <;> simp only [mem_cons_, mem_nil_, lkp, PV.lt, PV.ltL, PObj.lt, decide_true, Bool.and_true, Bool.and_self, Nat.reduceLT, Nat.reduceLeDiff, Nat.reduceEqDiff, if_true, if_false, ↓reduceIte, and_true, true_and, Nat.zero_le, reduceCtorEq, eq_self, decide_eq_true_eq, encI_snoc, List.cons_append, List.length_cons, List.length_append, List.length_singleton, List.length_nil] <;> try first | omega | ((repeat' (first | exact And.intro rfl (by omega) | (refine And.intro ?_ ?_))) <;> first | rfl | omega | (congr 3; omega) | (congr 2; omega))
def walkQ (s : ByteArray) (id nx nt : Nat) (r : PV) (st : PS) : Prop := r = vI (scan s 0).2 ∧ ∃ k, nt ≤ st.nt ∧ k < st.nt ∧ st.nx = nx ∧ st.heap = outH id k (scan s 0).1 ∧ st.toks = tokI k 3 (scan s 0).1
theorem outH_weak (id k nx nt : Nat) (xs : List Int) (h : id < nx) (hk : k < nt) : ∀ e ∈ outH id k xs, lkp (outH id k xs) e.1 = some e.2 ∧ e.1 < nx ∧ e.2.lt nx nt = true := by
  intro e he
  simp only [outH, List.mem_singleton] at he
  subst he
  refine ⟨by simp [outH, lkp], h, ?_⟩
  cases xs <;> simp [rowI, PObj.lt, PV.ltL, PV.lt, hk]
theorem tokI_weak' (k nt : Nat) (t : TypeId) (xs : List Int) (hk : k < nt) : ∀ e ∈ tokI k t xs, lkp (tokI k t xs) e.1 = some e.2 ∧ e.1 < nt := fun e he => ⟨(tokI_weak k t xs e he).1, by have := (tokI_weak k t xs e he).2; omega⟩
set_option maxHeartbeats 4000000 in
theorem walk_ok (s : ByteArray) (hs : s.size ≤ 1000000) (id k0 nx nt : Nat) (hid : id < nx) (hk0 : k0 < nt) :
    OkI Try.prog 27 [vS s, .fn 28 [.ptr id 0]] ⟨[], outH id k0 [], [], nx, nt⟩ (walkQ s id nx nt) := by
  refine OkI.of_pwp (by kernel_rfl) Try.func27 rfl (by kernel_rfl) (by kernel_rfl) ?_
  generalize hr : scan s 0 = rr
  unfold walkQ
  rw [hr]
  simp (implicitDefEqProofs := false) (disch := omega) only [go_sem, reduceCtorEq, Nat.reduceEqDiff, Nat.reduceBEq, ↓reduceIte, Nat.reduceGT, Nat.reduceAdd, Int.reduceEq, Int.reduceLT, Int.reduceLE, Int.reduceNeg, Int.reduceAdd, Int.reduceSub, Int.reduceMul, Int.reduceDiv, Int.reduceMod, Nat.reduceLT, Nat.reduceLeDiff, Nat.reduceMul, Nat.reduceSub, Int.reduceToNat, go_sem, ↓ix_enc, encI_len, encI_take, Nat.le_refl, Try.results27]
  refine p_loop (ι := { p : Nat × Nat × Nat × List Int // p.1 ≤ s.size ∧ p.2.2.2.length ≤ p.1 ∧ nt ≤ p.2.2.1 ∧ p.2.1 < p.2.2.1 ∧ rr = (p.2.2.2 ++ (scan s p.1).1, (scan s p.1).2) })
    (fun p => ⟨[(5, vI p.1.1), (0, vS s), (1, .fn 28 [.ptr id 0])], outH id p.1.2.1 p.1.2.2.2, tokI p.1.2.1 3 p.1.2.2.2, nx, p.1.2.2.1⟩) (fun p => s.size - p.1.1) ⟨(0, k0, nt, []), Nat.zero_le _, Nat.zero_le _, Nat.le_refl _, hk0, by simp [hr]⟩ ?_ ?_
  · refine ⟨?_, outH_weak _ _ _ _ _ hid hk0, (fun e he => by cases he), by simp only; omega, by simp only; omega, Nat.le_refl _, Nat.le_refl _⟩
    simp only [mem_cons_, mem_nil_, lkp, PV.lt, PV.ltL, Nat.reduceEqDiff, if_true, if_false, ↓reduceIte, and_true, true_and, Int.natCast_zero, Bool.and_true, decide_eq_true_eq, reduceCtorEq]
    exact hid
  · rintro ⟨⟨i, k, nt1, xs⟩, h1, h2, h3, h4, h5⟩
    simp only at h1 h2 h3 h4 h5 ⊢
    simp (implicitDefEqProofs := false) (disch := omega) only [go_sem, reduceCtorEq, Nat.reduceEqDiff, Nat.reduceBEq, ↓reduceIte, Nat.reduceGT, Nat.reduceAdd, Int.reduceEq, Int.reduceLT, Int.reduceLE, Int.reduceNeg, Int.reduceAdd, Int.reduceSub, Int.reduceMul, Int.reduceDiv, Int.reduceMod, Nat.reduceLT, Nat.reduceLeDiff, Nat.reduceMul, Nat.reduceSub, Int.reduceToNat, go_sem, ↓ix_enc, encI_len, encI_take, Nat.le_refl, Try.results27]
    with_reducible refine ifK_split (fun hlt => ?_) (fun hge => ?_)
    · have hlt' : i < s.size := by omega
      have d := decode_ok0 (s.extract i s.size) (by rw [Lib.tail_size]; omega)
      rw [decF_tail hlt'] at d
      simp (implicitDefEqProofs := false) (disch := omega) only [go_sem, reduceCtorEq, Nat.reduceEqDiff, Nat.reduceBEq, ↓reduceIte, Nat.reduceGT, Nat.reduceAdd, Int.reduceEq, Int.reduceLT, Int.reduceLE, Int.reduceNeg, Int.reduceAdd, Int.reduceSub, Int.reduceMul, Int.reduceDiv, Int.reduceMod, Nat.reduceLT, Nat.reduceLeDiff, Nat.reduceMul, Nat.reduceSub, Int.reduceToNat, go_sem, ↓ix_enc, encI_len, encI_take, Nat.le_refl, Try.results27]
      by_cases hb : Utf8.decode s i = (65533, 1)
      · rw [hb] at d
        rw [scan_bad hlt' hb] at h5
        simp only [goodN, if_true] at d
        simp only [List.append_nil] at h5
        with_reducible refine CallOk.of d rfl ?_
        simp (implicitDefEqProofs := false) (disch := omega) only [go_sem, reduceCtorEq, Nat.reduceEqDiff, Nat.reduceBEq, ↓reduceIte, Nat.reduceGT, Nat.reduceAdd, Int.reduceEq, Int.reduceLT, Int.reduceLE, Int.reduceNeg, Int.reduceAdd, Int.reduceSub, Int.reduceMul, Int.reduceDiv, Int.reduceMod, Nat.reduceLT, Nat.reduceLeDiff, Nat.reduceMul, Nat.reduceSub, Int.reduceToNat, go_sem, ↓ix_enc, encI_len, encI_take, Nat.le_refl, Try.results27]
        refine ⟨⟨[], outH id k xs, tokI k 3 xs, nx, nt1⟩, ⟨by rw [h5], k, h3, h4, rfl, by rw [h5], by rw [h5]⟩, ?_⟩
        refine ⟨?_, outH_weak _ _ _ _ _ hid h4, tokI_weak' _ _ _ _ h4, by simp only; omega, by simp only; omega, Nat.le_refl _, h3⟩
        simp only [mem_cons_, mem_nil_, lkp, PV.lt, if_true, ↓reduceIte, and_true, true_and]
      · rw [goodN, if_neg hb] at d
        have hp := dec_pos s i hlt'
        rw [scan_step hlt' hb] at h5
        generalize Utf8.decode s i = q at *
        with_reducible refine CallOk.of d rfl ?_
        have hd0 : ¬ ((q.2 : Int) = 0) := by omega
        simp (implicitDefEqProofs := false) (disch := omega) only [go_sem, reduceCtorEq, Nat.reduceEqDiff, Nat.reduceBEq, ↓reduceIte, Nat.reduceGT, Nat.reduceAdd, Int.reduceEq, Int.reduceLT, Int.reduceLE, Int.reduceNeg, Int.reduceAdd, Int.reduceSub, Int.reduceMul, Int.reduceDiv, Int.reduceMod, Nat.reduceLT, Nat.reduceLeDiff, Nat.reduceMul, Nat.reduceSub, Int.reduceToNat, go_sem, ↓ix_enc, encI_len, encI_take, Nat.le_refl, Try.results27]
        refine CallOk.ofI (see_ok q.1 id k _ _ xs (by omega) (fun _ => by omega) (by omega)) rfl rfl rfl rfl ?_
        rintro r ⟨e1, p1, t1, x1, y1⟩ ⟨rfl, k', g1, g2, g3, g4, g5⟩
        simp only at g1 g2 g3 g4 g5
        subst g3 g4 g5
        simp (implicitDefEqProofs := false) (disch := omega) only [go_sem, reduceCtorEq, Nat.reduceEqDiff, Nat.reduceBEq, ↓reduceIte, Nat.reduceGT, Nat.reduceAdd, Int.reduceEq, Int.reduceLT, Int.reduceLE, Int.reduceNeg, Int.reduceAdd, Int.reduceSub, Int.reduceMul, Int.reduceDiv, Int.reduceMod, Nat.reduceLT, Nat.reduceLeDiff, Nat.reduceMul, Nat.reduceSub, Int.reduceToNat, go_sem, ↓ix_enc, encI_len, encI_take, Nat.le_refl, Try.results27]
        refine ⟨⟨(i + q.2, k', y1, xs ++ [(q.1 : Int)]), by simp only; omega, by simp only [List.length_append, List.length_singleton]; omega, by simp only; omega, by simp only; omega, by simpa using h5⟩, by simp only; omega, ?_⟩
        refine ⟨?_, outH_weak _ _ _ _ _ hid g2, tokI_weak' _ _ _ _ g2, by simp only; omega, by simp only; omega, Nat.le_refl _, by simp only; omega⟩
        simp only [mem_cons_, mem_nil_, lkp, PV.lt, PV.ltL, Nat.reduceEqDiff, if_true, if_false, ↓reduceIte, and_true, true_and, Int.natCast_add, Bool.and_true, decide_eq_true_eq, reduceCtorEq]
        exact hid
    · rw [scan_end (by omega)] at h5
      simp only [List.append_nil] at h5
      simp (implicitDefEqProofs := false) (disch := omega) only [go_sem, reduceCtorEq, Nat.reduceEqDiff, Nat.reduceBEq, ↓reduceIte, Nat.reduceGT, Nat.reduceAdd, Int.reduceEq, Int.reduceLT, Int.reduceLE, Int.reduceNeg, Int.reduceAdd, Int.reduceSub, Int.reduceMul, Int.reduceDiv, Int.reduceMod, Nat.reduceLT, Nat.reduceLeDiff, Nat.reduceMul, Nat.reduceSub, Int.reduceToNat, go_sem, ↓ix_enc, encI_len, encI_take, Nat.le_refl, Try.results27]
      refine ⟨⟨[], outH id k xs, tokI k 3 xs, nx, nt1⟩, ⟨by rw [h5], k, h3, h4, rfl, by rw [h5], by rw [h5]⟩, ?_⟩
      refine ⟨?_, outH_weak _ _ _ _ _ hid h4, tokI_weak' _ _ _ _ h4, by simp only; omega, by simp only; omega, Nat.le_refl _, h3⟩
      simp only [mem_cons_, mem_nil_, lkp, PV.lt, if_true, ↓reduceIte, and_true, true_and]
def pointsF (s : ByteArray) : PV := if (scan s 0).2 = s.size then .tup [.sl (encI (scan s 0).1), vB true] else .tup [.sl [], vB false]
theorem gpoints_ok (s : ByteArray) (hs : s.size ≤ 1000000) : Ok Try.prog 20 [vS s] (pointsF s) := by
  refine Ok.of_pwp (by kernel_rfl) Try.func20 rfl (by kernel_rfl) (by kernel_rfl) ?_
  unfold pointsF
  have hl := scan_len s 0 (Nat.zero_le _)
  simp (implicitDefEqProofs := false) (disch := omega) only [go_sem, reduceCtorEq, Nat.reduceEqDiff, Nat.reduceBEq, ↓reduceIte, Nat.reduceGT, Nat.reduceAdd, Int.reduceEq, Int.reduceLT, Int.reduceLE, Int.reduceNeg, Int.reduceAdd, Int.reduceSub, Int.reduceMul, Int.reduceDiv, Int.reduceMod, Nat.reduceLT, Nat.reduceLeDiff, Nat.reduceMul, Nat.reduceSub, Int.reduceToNat, go_sem, ↓ix_enc, encI_len, encI_take, Nat.le_refl, Try.results20]
  refine CallOk.ofI (walk_ok s hs 2 0 _ _ (by omega) (by omega)) rfl rfl rfl rfl ?_
  rintro r ⟨e1, p1, t1, x1, y1⟩ ⟨rfl, k', g1, g2, g3, g4, g5⟩
  simp only at g1 g2 g3 g4 g5
  subst g3 g4 g5
  simp (implicitDefEqProofs := false) (disch := omega) only [go_sem, reduceCtorEq, Nat.reduceEqDiff, Nat.reduceBEq, ↓reduceIte, Nat.reduceGT, Nat.reduceAdd, Int.reduceEq, Int.reduceLT, Int.reduceLE, Int.reduceNeg, Int.reduceAdd, Int.reduceSub, Int.reduceMul, Int.reduceDiv, Int.reduceMod, Nat.reduceLT, Nat.reduceLeDiff, Nat.reduceMul, Nat.reduceSub, Int.reduceToNat, go_sem, ↓ix_enc, encI_len, encI_take, Nat.le_refl, Try.results20]
  with_reducible refine ifK_split (fun hlt => ?_) (fun hge => ?_)
  · rw [if_neg (by omega)]
    simp (implicitDefEqProofs := false) (disch := omega) only [go_sem, reduceCtorEq, Nat.reduceEqDiff, Nat.reduceBEq, ↓reduceIte, Nat.reduceGT, Nat.reduceAdd, Int.reduceEq, Int.reduceLT, Int.reduceLE, Int.reduceNeg, Int.reduceAdd, Int.reduceSub, Int.reduceMul, Int.reduceDiv, Int.reduceMod, Nat.reduceLT, Nat.reduceLeDiff, Nat.reduceMul, Nat.reduceSub, Int.reduceToNat, go_sem, ↓ix_enc, encI_len, encI_take, Nat.le_refl, Try.results20]
  · rw [if_pos (by omega)]
    simp only [outH]
    simp (implicitDefEqProofs := false) (disch := omega) only [go_sem, reduceCtorEq, Nat.reduceEqDiff, Nat.reduceBEq, ↓reduceIte, Nat.reduceGT, Nat.reduceAdd, Int.reduceEq, Int.reduceLT, Int.reduceLE, Int.reduceNeg, Int.reduceAdd, Int.reduceSub, Int.reduceMul, Int.reduceDiv, Int.reduceMod, Nat.reduceLT, Nat.reduceLeDiff, Nat.reduceMul, Nat.reduceSub, Int.reduceToNat, go_sem, ↓ix_enc, encI_len, encI_take, Nat.le_refl, Try.results20]
    cases (scan s 0).1 <;> rfl
end Go.Proofs.Ytfhdokpcnkpcpaa
