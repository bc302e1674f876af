/-
  Chapter 25: whether a command may be; the same; the law Parses.
-/
import Derived.Test.YtegehnojbfedlaaDoorC6
open Go Go.Proofs Go.Pw Go.RowKit
namespace Go.Proofs.YtegehnojbfedlaaDoor
set_option maxRecDepth 4000
set_option linter.unusedVariables false
set_option linter.unusedSimpArgs false
theorem encB_get (l : List (List UInt8)) (i : Nat) : (encB l).getD i [] = if i < l.length then [vS (bA (l.getD i []))] else [] := by
  unfold encB
  by_cases h : i < l.length
  · simp [h, List.getD_eq_getElem?_getD]
  · rw [if_neg h, List.getD_eq_getElem?_getD, List.getElem?_eq_none (by simpa using h)]; rfl
theorem ix_B {a : List (List UInt8)} {i : Int} {K : PV → Prop} (h0 : 0 ≤ i) (h1 : i < (a.length : Int)) : ixP 1 i K (.sl (encB a)) = K (.fp [vS (bA (a.getD i.toNat []))]) := by
  have h : i.toNat < a.length := by omega
  simp only [ixP, encB_get, if_pos h, encB_len, List.length_singleton, h0, h1, true_and]
theorem encB_all (l : List (List UInt8)) : (∀ x ∈ encB l, x.length = 1) = True := eq_true (fun x hx => by
  obtain ⟨n, _, rfl⟩ := List.mem_map.1 hx
  rfl)
theorem fz_encB : ∀ (l : List (List UInt8)), fzLL (encB l) = some (encB l)
  | [] => rfl
  | x :: r => by
    have ih := fz_encB r
    unfold encB at ih ⊢
    rw [List.map_cons, fzLL, ih]
    rfl
attribute [go_sem ↓ 2000] ix_B
attribute [go_sem] encB_len encB_all fz_encB
theorem strange_ok (l : List UInt8) (hl : l.length ≤ 1000000) : Ok Tryd.prog 36 [vS (bA l)] (vB (!nameL l)) := by
  have c0 := isName_ok l hl
  refine Ok.of_pwp (by kernel_rfl) Tryd.func36 rfl (by kernel_rfl) (by kernel_rfl) ?_
  simp (implicitDefEqProofs := false) (disch := omega) only [go_sem, reduceCtorEq, Nat.reduceEqDiff, Nat.reduceBEq, ↓reduceIte, Nat.reduceGT, Nat.reduceAdd, Int.reduceEq, Int.reduceLT, Int.reduceLE, Int.reduceNeg, Int.reduceAdd, Int.reduceSub, Int.reduceMul, Int.reduceDiv, Int.reduceMod, Nat.reduceLT, Nat.reduceLeDiff, Nat.reduceMul, Nat.reduceSub, Int.reduceToNat, go_sem, Nat.le_refl, Int.toNat_natCast, Int.toNat_zero, Int.toNat_one, str_eq, sz_bA, tl_bA, encI_len, ↓ix_enc, Tryd.results36]
  with_reducible refine CallOk.of c0 rfl ?_
  simp (implicitDefEqProofs := false) (disch := omega) only [go_sem, reduceCtorEq, Nat.reduceEqDiff, Nat.reduceBEq, ↓reduceIte, Nat.reduceGT, Nat.reduceAdd, Int.reduceEq, Int.reduceLT, Int.reduceLE, Int.reduceNeg, Int.reduceAdd, Int.reduceSub, Int.reduceMul, Int.reduceDiv, Int.reduceMod, Nat.reduceLT, Nat.reduceLeDiff, Nat.reduceMul, Nat.reduceSub, Int.reduceToNat, go_sem, Nat.le_refl, Int.toNat_natCast, Int.toNat_zero, Int.toNat_one, str_eq, sz_bA, tl_bA, encI_len, ↓ix_enc, Tryd.results36]
def fewB (l : List (List UInt8)) : Prop := ∀ s ∈ l, s.length ≤ 1000000
theorem fewB.get {l : List (List UInt8)} (h : fewB l) (i : Nat) : (l.getD i []).length ≤ 1000000 := by
  by_cases hi : i < l.length
  · rw [List.getD_eq_getElem?_getD, List.getElem?_eq_getElem hi]; exact h _ (List.getElem_mem hi)
  · rw [List.getD_eq_getElem?_getD, List.getElem?_eq_none (by omega)]; exact Nat.zero_le _
def idxB (l : List (List UInt8)) : Int := if l.all nameL = true then -1 else (l.findIdx (fun s => !nameL s) : Int)
theorem all_get {l : List (List UInt8)} (h : ∀ j, j < l.length → nameL (l.getD j []) = true) : l.all nameL = true := by
  rw [List.all_eq_true]
  intro x hx
  obtain ⟨j, hj, rfl⟩ := List.mem_iff_getElem.1 hx
  have := h j hj
  rw [List.getD_eq_getElem?_getD, List.getElem?_eq_getElem hj] at this
  exact this
theorem all_no {l : List (List UInt8)} {j : Nat} (hj : j < l.length) (h : nameL (l.getD j []) = false) : l.all nameL = false := by
  apply Bool.eq_false_iff.2
  intro k
  rw [List.all_eq_true] at k
  have := k (l.getD j []) (by rw [List.getD_eq_getElem?_getD, List.getElem?_eq_getElem hj]; exact List.getElem_mem hj)
  rw [h] at this
  cases this
set_option maxHeartbeats 4000000 in
theorem idxB_ok (l : List (List UInt8)) (hl : l.length ≤ 140737488351232) (hf : fewB l) : Ok Tryd.prog 53 [.sl (encB l), .fn 36 []] (vI (idxB l)) := by
  refine Ok.of_pwp (by kernel_rfl) Tryd.func53 rfl (by kernel_rfl) (by kernel_rfl) ?_
  generalize hr : idxB l = rr
  simp (implicitDefEqProofs := false) (disch := omega) only [go_sem, reduceCtorEq, Nat.reduceEqDiff, Nat.reduceBEq, ↓reduceIte, Nat.reduceGT, Nat.reduceAdd, Int.reduceEq, Int.reduceLT, Int.reduceLE, Int.reduceNeg, Int.reduceAdd, Int.reduceSub, Int.reduceMul, Int.reduceDiv, Int.reduceMod, Nat.reduceLT, Nat.reduceLeDiff, Nat.reduceMul, Nat.reduceSub, Int.reduceToNat, go_sem, Nat.le_refl, Int.toNat_natCast, Int.toNat_zero, Int.toNat_one, str_eq, sz_bA, tl_bA, encI_len, ↓ix_enc, Tryd.results53]
  refine p_loop (ι := { i : Nat // i ≤ l.length ∧ ∀ j, j < i → nameL (l.getD j []) = true }) (fun p => ⟨[(8, vI p.1), (7, vI l.length), (0, .sl (encB l)), (1, .fn 36 [])], [], [], 0, 0⟩) (fun p => l.length - p.1) ⟨0, Nat.zero_le _, fun j h => by omega⟩ ?_ ?_
  · refine ⟨?_, ?_, ?_, ?_, ?_, ?_, ?_⟩ <;> simp only [mem_cons_, mem_nil_, lkp, hold_eq, b_some, frz_self, frz1_self, frzL_self, frzO_self, frzO_box, frzO_iter, frzL_cons, frzL_nil, frz_agg, frz1_row, frz1_nil, frz1_val, frz1_sl, frz1_rr, frz1_ptr, frz1_ms, frz_val, frz_sl, frz_row, frz_ptr, frz_ms, frz_fp, frz_tup, frz_fn, PV.lt, PV.ltL, PObj.lt, decide_true, Bool.true_and, Bool.and_true, Bool.and_self, Nat.reduceLT, Nat.reduceLeDiff, Nat.reduceEqDiff, if_true, if_false, ↓reduceIte, and_true, true_and, Nat.zero_le, reduceCtorEq, eq_self, decide_eq_true_eq, Int.natCast_zero] <;> try first | omega | ((repeat' (first | exact And.intro rfl (by omega) | (refine And.intro ?_ ?_))) <;> first | rfl | omega | (congr 3; omega) | (congr 2; omega))
  · rintro ⟨i, h1, h2⟩
    simp only
    by_cases hi : i < l.length
    · have c0 := strange_ok (l.getD i []) (hf.get i)
      cases hw : nameL (l.getD i []) with
      | false =>
        rw [hw] at c0
        have e : rr = (i : Int) := by
          rw [← hr, idxB, if_neg (by rw [all_no hi hw]; decide)]
          congr 1
          rw [List.findIdx_eq hi]
          refine ⟨?_, fun j hj => ?_⟩
          · have : l.getD i [] = l[i] := by rw [List.getD_eq_getElem?_getD, List.getElem?_eq_getElem hi]; rfl
            rw [← this, hw]; rfl
          · have := h2 j hj
            rw [List.getD_eq_getElem?_getD, List.getElem?_eq_getElem (by omega)] at this
            simp only [Option.getD_some] at this
            rw [this]; rfl
        rw [e]
        simp (implicitDefEqProofs := false) (disch := omega) only [go_sem, reduceCtorEq, Nat.reduceEqDiff, Nat.reduceBEq, ↓reduceIte, Nat.reduceGT, Nat.reduceAdd, Int.reduceEq, Int.reduceLT, Int.reduceLE, Int.reduceNeg, Int.reduceAdd, Int.reduceSub, Int.reduceMul, Int.reduceDiv, Int.reduceMod, Nat.reduceLT, Nat.reduceLeDiff, Nat.reduceMul, Nat.reduceSub, Int.reduceToNat, go_sem, Nat.le_refl, Int.toNat_natCast, Int.toNat_zero, Int.toNat_one, str_eq, sz_bA, tl_bA, encI_len, ↓ix_enc, Tryd.results53]
        with_reducible refine CallOk.of c0 rfl ?_
        simp (implicitDefEqProofs := false) (disch := omega) only [go_sem, reduceCtorEq, Nat.reduceEqDiff, Nat.reduceBEq, ↓reduceIte, Nat.reduceGT, Nat.reduceAdd, Int.reduceEq, Int.reduceLT, Int.reduceLE, Int.reduceNeg, Int.reduceAdd, Int.reduceSub, Int.reduceMul, Int.reduceDiv, Int.reduceMod, Nat.reduceLT, Nat.reduceLeDiff, Nat.reduceMul, Nat.reduceSub, Int.reduceToNat, go_sem, Nat.le_refl, Int.toNat_natCast, Int.toNat_zero, Int.toNat_one, str_eq, sz_bA, tl_bA, encI_len, ↓ix_enc, Tryd.results53]
      | true =>
        rw [hw] at c0
        simp (implicitDefEqProofs := false) (disch := omega) only [go_sem, reduceCtorEq, Nat.reduceEqDiff, Nat.reduceBEq, ↓reduceIte, Nat.reduceGT, Nat.reduceAdd, Int.reduceEq, Int.reduceLT, Int.reduceLE, Int.reduceNeg, Int.reduceAdd, Int.reduceSub, Int.reduceMul, Int.reduceDiv, Int.reduceMod, Nat.reduceLT, Nat.reduceLeDiff, Nat.reduceMul, Nat.reduceSub, Int.reduceToNat, go_sem, Nat.le_refl, Int.toNat_natCast, Int.toNat_zero, Int.toNat_one, str_eq, sz_bA, tl_bA, encI_len, ↓ix_enc, Tryd.results53]
        with_reducible refine CallOk.of c0 rfl ?_
        simp (implicitDefEqProofs := false) (disch := omega) only [go_sem, reduceCtorEq, Nat.reduceEqDiff, Nat.reduceBEq, ↓reduceIte, Nat.reduceGT, Nat.reduceAdd, Int.reduceEq, Int.reduceLT, Int.reduceLE, Int.reduceNeg, Int.reduceAdd, Int.reduceSub, Int.reduceMul, Int.reduceDiv, Int.reduceMod, Nat.reduceLT, Nat.reduceLeDiff, Nat.reduceMul, Nat.reduceSub, Int.reduceToNat, go_sem, Nat.le_refl, Int.toNat_natCast, Int.toNat_zero, Int.toNat_one, str_eq, sz_bA, tl_bA, encI_len, ↓ix_enc, Tryd.results53]
        refine ⟨⟨i + 1, by omega, fun j hj => by
          by_cases e : j = i
          · subst e; exact hw
          · exact h2 j (by omega)⟩, by simp only; omega, ?_⟩
        refine ⟨?_, ?_, ?_, ?_, ?_, ?_, ?_⟩ <;> simp only [mem_cons_, mem_nil_, lkp, hold_eq, b_some, frz_self, frz1_self, frzL_self, frzO_self, frzO_box, frzO_iter, frzL_cons, frzL_nil, frz_agg, frz1_row, frz1_nil, frz1_val, frz1_sl, frz1_rr, frz1_ptr, frz1_ms, frz_val, frz_sl, frz_row, frz_ptr, frz_ms, frz_fp, frz_tup, frz_fn, PV.lt, PV.ltL, PObj.lt, decide_true, Bool.true_and, Bool.and_true, Bool.and_self, Nat.reduceLT, Nat.reduceLeDiff, Nat.reduceEqDiff, if_true, if_false, ↓reduceIte, and_true, true_and, Nat.zero_le, reduceCtorEq, eq_self, decide_eq_true_eq, Int.natCast_add, Int.natCast_one] <;> try first | omega | ((repeat' (first | exact And.intro rfl (by omega) | (refine And.intro ?_ ?_))) <;> first | rfl | omega | (congr 3; omega) | (congr 2; omega))
    · have e : rr = -1 := by rw [← hr, idxB, if_pos (all_get (fun j hj => h2 j (by omega)))]
      rw [e]
      simp (implicitDefEqProofs := false) (disch := omega) only [go_sem, reduceCtorEq, Nat.reduceEqDiff, Nat.reduceBEq, ↓reduceIte, Nat.reduceGT, Nat.reduceAdd, Int.reduceEq, Int.reduceLT, Int.reduceLE, Int.reduceNeg, Int.reduceAdd, Int.reduceSub, Int.reduceMul, Int.reduceDiv, Int.reduceMod, Nat.reduceLT, Nat.reduceLeDiff, Nat.reduceMul, Nat.reduceSub, Int.reduceToNat, go_sem, Nat.le_refl, Int.toNat_natCast, Int.toNat_zero, Int.toNat_one, str_eq, sz_bA, tl_bA, encI_len, ↓ix_enc, Tryd.results53]
theorem contB_ok (l : List (List UInt8)) (hl : l.length ≤ 140737488351232) (hf : fewB l) : Ok Tryd.prog 37 [.sl (encB l), .fn 36 []] (vB (!(l.all nameL))) := by
  have c0 := idxB_ok l hl hf
  unfold idxB at c0
  refine Ok.of_pwp (by kernel_rfl) Tryd.func37 rfl (by kernel_rfl) (by kernel_rfl) ?_
  cases h : l.all nameL with
  | true =>
    rw [h, if_pos rfl] at c0
    simp (implicitDefEqProofs := false) (disch := omega) only [go_sem, reduceCtorEq, Nat.reduceEqDiff, Nat.reduceBEq, ↓reduceIte, Nat.reduceGT, Nat.reduceAdd, Int.reduceEq, Int.reduceLT, Int.reduceLE, Int.reduceNeg, Int.reduceAdd, Int.reduceSub, Int.reduceMul, Int.reduceDiv, Int.reduceMod, Nat.reduceLT, Nat.reduceLeDiff, Nat.reduceMul, Nat.reduceSub, Int.reduceToNat, go_sem, Nat.le_refl, Int.toNat_natCast, Int.toNat_zero, Int.toNat_one, str_eq, sz_bA, tl_bA, encI_len, ↓ix_enc, Tryd.results37]
    with_reducible refine CallOk.of c0 rfl ?_
    simp (implicitDefEqProofs := false) (disch := omega) only [go_sem, reduceCtorEq, Nat.reduceEqDiff, Nat.reduceBEq, ↓reduceIte, Nat.reduceGT, Nat.reduceAdd, Int.reduceEq, Int.reduceLT, Int.reduceLE, Int.reduceNeg, Int.reduceAdd, Int.reduceSub, Int.reduceMul, Int.reduceDiv, Int.reduceMod, Nat.reduceLT, Nat.reduceLeDiff, Nat.reduceMul, Nat.reduceSub, Int.reduceToNat, go_sem, Nat.le_refl, Int.toNat_natCast, Int.toNat_zero, Int.toNat_one, str_eq, sz_bA, tl_bA, encI_len, ↓ix_enc, Tryd.results37]
  | false =>
    rw [h, if_neg (by decide)] at c0
    simp (implicitDefEqProofs := false) (disch := omega) only [go_sem, reduceCtorEq, Nat.reduceEqDiff, Nat.reduceBEq, ↓reduceIte, Nat.reduceGT, Nat.reduceAdd, Int.reduceEq, Int.reduceLT, Int.reduceLE, Int.reduceNeg, Int.reduceAdd, Int.reduceSub, Int.reduceMul, Int.reduceDiv, Int.reduceMod, Nat.reduceLT, Nat.reduceLeDiff, Nat.reduceMul, Nat.reduceSub, Int.reduceToNat, go_sem, Nat.le_refl, Int.toNat_natCast, Int.toNat_zero, Int.toNat_one, str_eq, sz_bA, tl_bA, encI_len, ↓ix_enc, Tryd.results37]
    with_reducible refine CallOk.of c0 rfl ?_
    simp (implicitDefEqProofs := false) (disch := omega) only [go_sem, reduceCtorEq, Nat.reduceEqDiff, Nat.reduceBEq, ↓reduceIte, Nat.reduceGT, Nat.reduceAdd, Int.reduceEq, Int.reduceLT, Int.reduceLE, Int.reduceNeg, Int.reduceAdd, Int.reduceSub, Int.reduceMul, Int.reduceDiv, Int.reduceMod, Nat.reduceLT, Nat.reduceLeDiff, Nat.reduceMul, Nat.reduceSub, Int.reduceToNat, go_sem, Nat.le_refl, Int.toNat_natCast, Int.toNat_zero, Int.toNat_one, str_eq, sz_bA, tl_bA, encI_len, ↓ix_enc, Tryd.results37]
    exact dT (by omega)
/-- Whether it may be. -/
def goodC (c : Cm) : Bool := match asks c.word with
  | none => false
  | some (a, b, r) => decide (c.names.length = a) && decide (c.nums.length = b) && (r || decide (c.rest = [])) && decide (skp c.rest = c.rest) && c.names.all nameL
set_option maxHeartbeats 8000000 in
theorem good_ok (c : Cm) (h1 : c.names.length ≤ 1000000) (h2 : c.nums.length ≤ 1000000) (hf : fewB c.names) : Ok Tryd.prog 22 [cmP c] (vB (goodC c)) := by
  obtain ⟨w, ns, ms, rt⟩ := c
  simp only at h1 h2 hf
  have c1 := shaped_ok w
  have c2 := trimL_ok rt
  have c3 := contB_ok ns (by omega) hf
  unfold goodC cmP
  simp only
  refine Ok.of_pwp (by kernel_rfl) Tryd.func22 rfl (by kernel_rfl) (by kernel_rfl) ?_
  cases ha : asks w with
  | none =>
    rw [ha] at c1
    unfold shpP at c1
    simp (implicitDefEqProofs := false) (disch := omega) only [go_sem, reduceCtorEq, Nat.reduceEqDiff, Nat.reduceBEq, ↓reduceIte, Nat.reduceGT, Nat.reduceAdd, Int.reduceEq, Int.reduceLT, Int.reduceLE, Int.reduceNeg, Int.reduceAdd, Int.reduceSub, Int.reduceMul, Int.reduceDiv, Int.reduceMod, Nat.reduceLT, Nat.reduceLeDiff, Nat.reduceMul, Nat.reduceSub, Int.reduceToNat, go_sem, Nat.le_refl, Int.toNat_natCast, Int.toNat_zero, Int.toNat_one, str_eq, sz_bA, tl_bA, encI_len, ↓ix_enc, Tryd.results22]
    with_reducible refine CallOk.of c1 rfl ?_
    simp (implicitDefEqProofs := false) (disch := omega) only [go_sem, reduceCtorEq, Nat.reduceEqDiff, Nat.reduceBEq, ↓reduceIte, Nat.reduceGT, Nat.reduceAdd, Int.reduceEq, Int.reduceLT, Int.reduceLE, Int.reduceNeg, Int.reduceAdd, Int.reduceSub, Int.reduceMul, Int.reduceDiv, Int.reduceMod, Nat.reduceLT, Nat.reduceLeDiff, Nat.reduceMul, Nat.reduceSub, Int.reduceToNat, go_sem, Nat.le_refl, Int.toNat_natCast, Int.toNat_zero, Int.toNat_one, str_eq, sz_bA, tl_bA, encI_len, ↓ix_enc, Tryd.results22]
  | some q =>
    obtain ⟨a, b, r⟩ := q
    rw [ha] at c1
    unfold shpP at c1
    simp only at c1 ⊢
    by_cases g1 : ns.length = a
    rotate_left
    · rw [decide_eq_false g1]
      simp only [Bool.false_and]
      simp (implicitDefEqProofs := false) (disch := omega) only [go_sem, reduceCtorEq, Nat.reduceEqDiff, Nat.reduceBEq, ↓reduceIte, Nat.reduceGT, Nat.reduceAdd, Int.reduceEq, Int.reduceLT, Int.reduceLE, Int.reduceNeg, Int.reduceAdd, Int.reduceSub, Int.reduceMul, Int.reduceDiv, Int.reduceMod, Nat.reduceLT, Nat.reduceLeDiff, Nat.reduceMul, Nat.reduceSub, Int.reduceToNat, go_sem, Nat.le_refl, Int.toNat_natCast, Int.toNat_zero, Int.toNat_one, str_eq, sz_bA, tl_bA, encI_len, ↓ix_enc, Tryd.results22]
      with_reducible refine CallOk.of c1 rfl ?_
      simp (implicitDefEqProofs := false) (disch := omega) only [go_sem, reduceCtorEq, Nat.reduceEqDiff, Nat.reduceBEq, ↓reduceIte, Nat.reduceGT, Nat.reduceAdd, Int.reduceEq, Int.reduceLT, Int.reduceLE, Int.reduceNeg, Int.reduceAdd, Int.reduceSub, Int.reduceMul, Int.reduceDiv, Int.reduceMod, Nat.reduceLT, Nat.reduceLeDiff, Nat.reduceMul, Nat.reduceSub, Int.reduceToNat, go_sem, Nat.le_refl, Int.toNat_natCast, Int.toNat_zero, Int.toNat_one, str_eq, sz_bA, tl_bA, encI_len, ↓ix_enc, Tryd.results22]
      first | done | (trace_state; sorry)
    by_cases g2 : ms.length = b
    rotate_left
    · rw [decide_eq_true g1, decide_eq_false g2]
      simp only [Bool.false_and, Bool.true_and]
      simp (implicitDefEqProofs := false) (disch := omega) only [go_sem, reduceCtorEq, Nat.reduceEqDiff, Nat.reduceBEq, ↓reduceIte, Nat.reduceGT, Nat.reduceAdd, Int.reduceEq, Int.reduceLT, Int.reduceLE, Int.reduceNeg, Int.reduceAdd, Int.reduceSub, Int.reduceMul, Int.reduceDiv, Int.reduceMod, Nat.reduceLT, Nat.reduceLeDiff, Nat.reduceMul, Nat.reduceSub, Int.reduceToNat, go_sem, Nat.le_refl, Int.toNat_natCast, Int.toNat_zero, Int.toNat_one, str_eq, sz_bA, tl_bA, encI_len, ↓ix_enc, Tryd.results22]
      with_reducible refine CallOk.of c1 rfl ?_
      simp (implicitDefEqProofs := false) (disch := omega) only [go_sem, reduceCtorEq, Nat.reduceEqDiff, Nat.reduceBEq, ↓reduceIte, Nat.reduceGT, Nat.reduceAdd, Int.reduceEq, Int.reduceLT, Int.reduceLE, Int.reduceNeg, Int.reduceAdd, Int.reduceSub, Int.reduceMul, Int.reduceDiv, Int.reduceMod, Nat.reduceLT, Nat.reduceLeDiff, Nat.reduceMul, Nat.reduceSub, Int.reduceToNat, go_sem, Nat.le_refl, Int.toNat_natCast, Int.toNat_zero, Int.toNat_one, str_eq, sz_bA, tl_bA, encI_len, ↓ix_enc, Tryd.results22]
      first | done | (trace_state; sorry)
    rw [decide_eq_true g1, decide_eq_true g2]
    simp only [Bool.true_and]
    by_cases g3 : r = false ∧ rt ≠ []
    · obtain ⟨rfl, g3⟩ := g3
      have e3 : decide (rt = []) = false := decide_eq_false g3
      rw [e3]
      simp only [Bool.or_self, Bool.false_and]
      simp (implicitDefEqProofs := false) (disch := omega) only [go_sem, reduceCtorEq, Nat.reduceEqDiff, Nat.reduceBEq, ↓reduceIte, Nat.reduceGT, Nat.reduceAdd, Int.reduceEq, Int.reduceLT, Int.reduceLE, Int.reduceNeg, Int.reduceAdd, Int.reduceSub, Int.reduceMul, Int.reduceDiv, Int.reduceMod, Nat.reduceLT, Nat.reduceLeDiff, Nat.reduceMul, Nat.reduceSub, Int.reduceToNat, go_sem, Nat.le_refl, Int.toNat_natCast, Int.toNat_zero, Int.toNat_one, str_eq, sz_bA, tl_bA, encI_len, ↓ix_enc, Tryd.results22, g1, g2, e3]
      with_reducible refine CallOk.of c1 rfl ?_
      simp (implicitDefEqProofs := false) (disch := omega) only [go_sem, reduceCtorEq, Nat.reduceEqDiff, Nat.reduceBEq, ↓reduceIte, Nat.reduceGT, Nat.reduceAdd, Int.reduceEq, Int.reduceLT, Int.reduceLE, Int.reduceNeg, Int.reduceAdd, Int.reduceSub, Int.reduceMul, Int.reduceDiv, Int.reduceMod, Nat.reduceLT, Nat.reduceLeDiff, Nat.reduceMul, Nat.reduceSub, Int.reduceToNat, go_sem, Nat.le_refl, Int.toNat_natCast, Int.toNat_zero, Int.toNat_one, str_eq, sz_bA, tl_bA, encI_len, ↓ix_enc, Tryd.results22, g1, g2, e3]
      first | done | (trace_state; sorry)
    have e3 : (r || decide (rt = [])) = true := by
      cases r with
      | true => rfl
      | false => rw [decide_eq_true (by apply Decidable.byContradiction; intro k; exact g3 ⟨rfl, k⟩)]; rfl
    rw [e3]
    simp only [Bool.true_and]
    by_cases g4 : skp rt = rt
    rotate_left
    · rw [decide_eq_false g4]
      simp only [Bool.false_and]
      cases r with
      | true =>
        simp (implicitDefEqProofs := false) (disch := omega) only [go_sem, reduceCtorEq, Nat.reduceEqDiff, Nat.reduceBEq, ↓reduceIte, Nat.reduceGT, Nat.reduceAdd, Int.reduceEq, Int.reduceLT, Int.reduceLE, Int.reduceNeg, Int.reduceAdd, Int.reduceSub, Int.reduceMul, Int.reduceDiv, Int.reduceMod, Nat.reduceLT, Nat.reduceLeDiff, Nat.reduceMul, Nat.reduceSub, Int.reduceToNat, go_sem, Nat.le_refl, Int.toNat_natCast, Int.toNat_zero, Int.toNat_one, str_eq, sz_bA, tl_bA, encI_len, ↓ix_enc, Tryd.results22, g1, g2]
        with_reducible refine CallOk.of c1 rfl ?_
        simp (implicitDefEqProofs := false) (disch := omega) only [go_sem, reduceCtorEq, Nat.reduceEqDiff, Nat.reduceBEq, ↓reduceIte, Nat.reduceGT, Nat.reduceAdd, Int.reduceEq, Int.reduceLT, Int.reduceLE, Int.reduceNeg, Int.reduceAdd, Int.reduceSub, Int.reduceMul, Int.reduceDiv, Int.reduceMod, Nat.reduceLT, Nat.reduceLeDiff, Nat.reduceMul, Nat.reduceSub, Int.reduceToNat, go_sem, Nat.le_refl, Int.toNat_natCast, Int.toNat_zero, Int.toNat_one, str_eq, sz_bA, tl_bA, encI_len, ↓ix_enc, Tryd.results22, g1, g2]
        with_reducible refine CallOk.of c2 rfl ?_
        simp (implicitDefEqProofs := false) (disch := omega) only [go_sem, reduceCtorEq, Nat.reduceEqDiff, Nat.reduceBEq, ↓reduceIte, Nat.reduceGT, Nat.reduceAdd, Int.reduceEq, Int.reduceLT, Int.reduceLE, Int.reduceNeg, Int.reduceAdd, Int.reduceSub, Int.reduceMul, Int.reduceDiv, Int.reduceMod, Nat.reduceLT, Nat.reduceLeDiff, Nat.reduceMul, Nat.reduceSub, Int.reduceToNat, go_sem, Nat.le_refl, Int.toNat_natCast, Int.toNat_zero, Int.toNat_one, str_eq, sz_bA, tl_bA, encI_len, ↓ix_enc, Tryd.results22, g1, g2]
        first | done | (trace_state; sorry)
      | false =>
        have e5 : decide (rt = []) = true := by simpa using e3
        simp (implicitDefEqProofs := false) (disch := omega) only [go_sem, reduceCtorEq, Nat.reduceEqDiff, Nat.reduceBEq, ↓reduceIte, Nat.reduceGT, Nat.reduceAdd, Int.reduceEq, Int.reduceLT, Int.reduceLE, Int.reduceNeg, Int.reduceAdd, Int.reduceSub, Int.reduceMul, Int.reduceDiv, Int.reduceMod, Nat.reduceLT, Nat.reduceLeDiff, Nat.reduceMul, Nat.reduceSub, Int.reduceToNat, go_sem, Nat.le_refl, Int.toNat_natCast, Int.toNat_zero, Int.toNat_one, str_eq, sz_bA, tl_bA, encI_len, ↓ix_enc, Tryd.results22, g1, g2, e5]
        with_reducible refine CallOk.of c1 rfl ?_
        simp (implicitDefEqProofs := false) (disch := omega) only [go_sem, reduceCtorEq, Nat.reduceEqDiff, Nat.reduceBEq, ↓reduceIte, Nat.reduceGT, Nat.reduceAdd, Int.reduceEq, Int.reduceLT, Int.reduceLE, Int.reduceNeg, Int.reduceAdd, Int.reduceSub, Int.reduceMul, Int.reduceDiv, Int.reduceMod, Nat.reduceLT, Nat.reduceLeDiff, Nat.reduceMul, Nat.reduceSub, Int.reduceToNat, go_sem, Nat.le_refl, Int.toNat_natCast, Int.toNat_zero, Int.toNat_one, str_eq, sz_bA, tl_bA, encI_len, ↓ix_enc, Tryd.results22, g1, g2, e5]
        with_reducible refine CallOk.of c2 rfl ?_
        simp (implicitDefEqProofs := false) (disch := omega) only [go_sem, reduceCtorEq, Nat.reduceEqDiff, Nat.reduceBEq, ↓reduceIte, Nat.reduceGT, Nat.reduceAdd, Int.reduceEq, Int.reduceLT, Int.reduceLE, Int.reduceNeg, Int.reduceAdd, Int.reduceSub, Int.reduceMul, Int.reduceDiv, Int.reduceMod, Nat.reduceLT, Nat.reduceLeDiff, Nat.reduceMul, Nat.reduceSub, Int.reduceToNat, go_sem, Nat.le_refl, Int.toNat_natCast, Int.toNat_zero, Int.toNat_one, str_eq, sz_bA, tl_bA, encI_len, ↓ix_enc, Tryd.results22, g1, g2, e5]
        first | done | (trace_state; sorry)
    rw [decide_eq_true g4]
    simp only [Bool.true_and]
    rw [g4] at c2
    cases r with
    | true =>
      cases hn : ns.all nameL with
      | true =>
        rw [hn] at c3
        simp (implicitDefEqProofs := false) (disch := omega) only [go_sem, reduceCtorEq, Nat.reduceEqDiff, Nat.reduceBEq, ↓reduceIte, Nat.reduceGT, Nat.reduceAdd, Int.reduceEq, Int.reduceLT, Int.reduceLE, Int.reduceNeg, Int.reduceAdd, Int.reduceSub, Int.reduceMul, Int.reduceDiv, Int.reduceMod, Nat.reduceLT, Nat.reduceLeDiff, Nat.reduceMul, Nat.reduceSub, Int.reduceToNat, go_sem, Nat.le_refl, Int.toNat_natCast, Int.toNat_zero, Int.toNat_one, str_eq, sz_bA, tl_bA, encI_len, ↓ix_enc, Tryd.results22, g1, g2]
        with_reducible refine CallOk.of c1 rfl ?_
        simp (implicitDefEqProofs := false) (disch := omega) only [go_sem, reduceCtorEq, Nat.reduceEqDiff, Nat.reduceBEq, ↓reduceIte, Nat.reduceGT, Nat.reduceAdd, Int.reduceEq, Int.reduceLT, Int.reduceLE, Int.reduceNeg, Int.reduceAdd, Int.reduceSub, Int.reduceMul, Int.reduceDiv, Int.reduceMod, Nat.reduceLT, Nat.reduceLeDiff, Nat.reduceMul, Nat.reduceSub, Int.reduceToNat, go_sem, Nat.le_refl, Int.toNat_natCast, Int.toNat_zero, Int.toNat_one, str_eq, sz_bA, tl_bA, encI_len, ↓ix_enc, Tryd.results22, g1, g2]
        with_reducible refine CallOk.of c2 rfl ?_
        simp (implicitDefEqProofs := false) (disch := omega) only [go_sem, reduceCtorEq, Nat.reduceEqDiff, Nat.reduceBEq, ↓reduceIte, Nat.reduceGT, Nat.reduceAdd, Int.reduceEq, Int.reduceLT, Int.reduceLE, Int.reduceNeg, Int.reduceAdd, Int.reduceSub, Int.reduceMul, Int.reduceDiv, Int.reduceMod, Nat.reduceLT, Nat.reduceLeDiff, Nat.reduceMul, Nat.reduceSub, Int.reduceToNat, go_sem, Nat.le_refl, Int.toNat_natCast, Int.toNat_zero, Int.toNat_one, str_eq, sz_bA, tl_bA, encI_len, ↓ix_enc, Tryd.results22, g1, g2]
        with_reducible refine CallOk.of c3 rfl ?_
        simp (implicitDefEqProofs := false) (disch := omega) only [go_sem, reduceCtorEq, Nat.reduceEqDiff, Nat.reduceBEq, ↓reduceIte, Nat.reduceGT, Nat.reduceAdd, Int.reduceEq, Int.reduceLT, Int.reduceLE, Int.reduceNeg, Int.reduceAdd, Int.reduceSub, Int.reduceMul, Int.reduceDiv, Int.reduceMod, Nat.reduceLT, Nat.reduceLeDiff, Nat.reduceMul, Nat.reduceSub, Int.reduceToNat, go_sem, Nat.le_refl, Int.toNat_natCast, Int.toNat_zero, Int.toNat_one, str_eq, sz_bA, tl_bA, encI_len, ↓ix_enc, Tryd.results22, g1, g2]
      | false =>
        rw [hn] at c3
        simp (implicitDefEqProofs := false) (disch := omega) only [go_sem, reduceCtorEq, Nat.reduceEqDiff, Nat.reduceBEq, ↓reduceIte, Nat.reduceGT, Nat.reduceAdd, Int.reduceEq, Int.reduceLT, Int.reduceLE, Int.reduceNeg, Int.reduceAdd, Int.reduceSub, Int.reduceMul, Int.reduceDiv, Int.reduceMod, Nat.reduceLT, Nat.reduceLeDiff, Nat.reduceMul, Nat.reduceSub, Int.reduceToNat, go_sem, Nat.le_refl, Int.toNat_natCast, Int.toNat_zero, Int.toNat_one, str_eq, sz_bA, tl_bA, encI_len, ↓ix_enc, Tryd.results22, g1, g2]
        with_reducible refine CallOk.of c1 rfl ?_
        simp (implicitDefEqProofs := false) (disch := omega) only [go_sem, reduceCtorEq, Nat.reduceEqDiff, Nat.reduceBEq, ↓reduceIte, Nat.reduceGT, Nat.reduceAdd, Int.reduceEq, Int.reduceLT, Int.reduceLE, Int.reduceNeg, Int.reduceAdd, Int.reduceSub, Int.reduceMul, Int.reduceDiv, Int.reduceMod, Nat.reduceLT, Nat.reduceLeDiff, Nat.reduceMul, Nat.reduceSub, Int.reduceToNat, go_sem, Nat.le_refl, Int.toNat_natCast, Int.toNat_zero, Int.toNat_one, str_eq, sz_bA, tl_bA, encI_len, ↓ix_enc, Tryd.results22, g1, g2]
        with_reducible refine CallOk.of c2 rfl ?_
        simp (implicitDefEqProofs := false) (disch := omega) only [go_sem, reduceCtorEq, Nat.reduceEqDiff, Nat.reduceBEq, ↓reduceIte, Nat.reduceGT, Nat.reduceAdd, Int.reduceEq, Int.reduceLT, Int.reduceLE, Int.reduceNeg, Int.reduceAdd, Int.reduceSub, Int.reduceMul, Int.reduceDiv, Int.reduceMod, Nat.reduceLT, Nat.reduceLeDiff, Nat.reduceMul, Nat.reduceSub, Int.reduceToNat, go_sem, Nat.le_refl, Int.toNat_natCast, Int.toNat_zero, Int.toNat_one, str_eq, sz_bA, tl_bA, encI_len, ↓ix_enc, Tryd.results22, g1, g2]
        with_reducible refine CallOk.of c3 rfl ?_
        simp (implicitDefEqProofs := false) (disch := omega) only [go_sem, reduceCtorEq, Nat.reduceEqDiff, Nat.reduceBEq, ↓reduceIte, Nat.reduceGT, Nat.reduceAdd, Int.reduceEq, Int.reduceLT, Int.reduceLE, Int.reduceNeg, Int.reduceAdd, Int.reduceSub, Int.reduceMul, Int.reduceDiv, Int.reduceMod, Nat.reduceLT, Nat.reduceLeDiff, Nat.reduceMul, Nat.reduceSub, Int.reduceToNat, go_sem, Nat.le_refl, Int.toNat_natCast, Int.toNat_zero, Int.toNat_one, str_eq, sz_bA, tl_bA, encI_len, ↓ix_enc, Tryd.results22, g1, g2]
    | false =>
      have e5 : decide (rt = []) = true := by simpa using e3
      cases hn : ns.all nameL with
      | true =>
        rw [hn] at c3
        simp (implicitDefEqProofs := false) (disch := omega) only [go_sem, reduceCtorEq, Nat.reduceEqDiff, Nat.reduceBEq, ↓reduceIte, Nat.reduceGT, Nat.reduceAdd, Int.reduceEq, Int.reduceLT, Int.reduceLE, Int.reduceNeg, Int.reduceAdd, Int.reduceSub, Int.reduceMul, Int.reduceDiv, Int.reduceMod, Nat.reduceLT, Nat.reduceLeDiff, Nat.reduceMul, Nat.reduceSub, Int.reduceToNat, go_sem, Nat.le_refl, Int.toNat_natCast, Int.toNat_zero, Int.toNat_one, str_eq, sz_bA, tl_bA, encI_len, ↓ix_enc, Tryd.results22, g1, g2, e5]
        with_reducible refine CallOk.of c1 rfl ?_
        simp (implicitDefEqProofs := false) (disch := omega) only [go_sem, reduceCtorEq, Nat.reduceEqDiff, Nat.reduceBEq, ↓reduceIte, Nat.reduceGT, Nat.reduceAdd, Int.reduceEq, Int.reduceLT, Int.reduceLE, Int.reduceNeg, Int.reduceAdd, Int.reduceSub, Int.reduceMul, Int.reduceDiv, Int.reduceMod, Nat.reduceLT, Nat.reduceLeDiff, Nat.reduceMul, Nat.reduceSub, Int.reduceToNat, go_sem, Nat.le_refl, Int.toNat_natCast, Int.toNat_zero, Int.toNat_one, str_eq, sz_bA, tl_bA, encI_len, ↓ix_enc, Tryd.results22, g1, g2, e5]
        with_reducible refine CallOk.of c2 rfl ?_
        simp (implicitDefEqProofs := false) (disch := omega) only [go_sem, reduceCtorEq, Nat.reduceEqDiff, Nat.reduceBEq, ↓reduceIte, Nat.reduceGT, Nat.reduceAdd, Int.reduceEq, Int.reduceLT, Int.reduceLE, Int.reduceNeg, Int.reduceAdd, Int.reduceSub, Int.reduceMul, Int.reduceDiv, Int.reduceMod, Nat.reduceLT, Nat.reduceLeDiff, Nat.reduceMul, Nat.reduceSub, Int.reduceToNat, go_sem, Nat.le_refl, Int.toNat_natCast, Int.toNat_zero, Int.toNat_one, str_eq, sz_bA, tl_bA, encI_len, ↓ix_enc, Tryd.results22, g1, g2, e5]
        with_reducible refine CallOk.of c3 rfl ?_
        simp (implicitDefEqProofs := false) (disch := omega) only [go_sem, reduceCtorEq, Nat.reduceEqDiff, Nat.reduceBEq, ↓reduceIte, Nat.reduceGT, Nat.reduceAdd, Int.reduceEq, Int.reduceLT, Int.reduceLE, Int.reduceNeg, Int.reduceAdd, Int.reduceSub, Int.reduceMul, Int.reduceDiv, Int.reduceMod, Nat.reduceLT, Nat.reduceLeDiff, Nat.reduceMul, Nat.reduceSub, Int.reduceToNat, go_sem, Nat.le_refl, Int.toNat_natCast, Int.toNat_zero, Int.toNat_one, str_eq, sz_bA, tl_bA, encI_len, ↓ix_enc, Tryd.results22, g1, g2, e5]
      | false =>
        rw [hn] at c3
        simp (implicitDefEqProofs := false) (disch := omega) only [go_sem, reduceCtorEq, Nat.reduceEqDiff, Nat.reduceBEq, ↓reduceIte, Nat.reduceGT, Nat.reduceAdd, Int.reduceEq, Int.reduceLT, Int.reduceLE, Int.reduceNeg, Int.reduceAdd, Int.reduceSub, Int.reduceMul, Int.reduceDiv, Int.reduceMod, Nat.reduceLT, Nat.reduceLeDiff, Nat.reduceMul, Nat.reduceSub, Int.reduceToNat, go_sem, Nat.le_refl, Int.toNat_natCast, Int.toNat_zero, Int.toNat_one, str_eq, sz_bA, tl_bA, encI_len, ↓ix_enc, Tryd.results22, g1, g2, e5]
        with_reducible refine CallOk.of c1 rfl ?_
        simp (implicitDefEqProofs := false) (disch := omega) only [go_sem, reduceCtorEq, Nat.reduceEqDiff, Nat.reduceBEq, ↓reduceIte, Nat.reduceGT, Nat.reduceAdd, Int.reduceEq, Int.reduceLT, Int.reduceLE, Int.reduceNeg, Int.reduceAdd, Int.reduceSub, Int.reduceMul, Int.reduceDiv, Int.reduceMod, Nat.reduceLT, Nat.reduceLeDiff, Nat.reduceMul, Nat.reduceSub, Int.reduceToNat, go_sem, Nat.le_refl, Int.toNat_natCast, Int.toNat_zero, Int.toNat_one, str_eq, sz_bA, tl_bA, encI_len, ↓ix_enc, Tryd.results22, g1, g2, e5]
        with_reducible refine CallOk.of c2 rfl ?_
        simp (implicitDefEqProofs := false) (disch := omega) only [go_sem, reduceCtorEq, Nat.reduceEqDiff, Nat.reduceBEq, ↓reduceIte, Nat.reduceGT, Nat.reduceAdd, Int.reduceEq, Int.reduceLT, Int.reduceLE, Int.reduceNeg, Int.reduceAdd, Int.reduceSub, Int.reduceMul, Int.reduceDiv, Int.reduceMod, Nat.reduceLT, Nat.reduceLeDiff, Nat.reduceMul, Nat.reduceSub, Int.reduceToNat, go_sem, Nat.le_refl, Int.toNat_natCast, Int.toNat_zero, Int.toNat_one, str_eq, sz_bA, tl_bA, encI_len, ↓ix_enc, Tryd.results22, g1, g2, e5]
        with_reducible refine CallOk.of c3 rfl ?_
        simp (implicitDefEqProofs := false) (disch := omega) only [go_sem, reduceCtorEq, Nat.reduceEqDiff, Nat.reduceBEq, ↓reduceIte, Nat.reduceGT, Nat.reduceAdd, Int.reduceEq, Int.reduceLT, Int.reduceLE, Int.reduceNeg, Int.reduceAdd, Int.reduceSub, Int.reduceMul, Int.reduceDiv, Int.reduceMod, Nat.reduceLT, Nat.reduceLeDiff, Nat.reduceMul, Nat.reduceSub, Int.reduceToNat, go_sem, Nat.le_refl, Int.toNat_natCast, Int.toNat_zero, Int.toNat_one, str_eq, sz_bA, tl_bA, encI_len, ↓ix_enc, Tryd.results22, g1, g2, e5]
end Go.Proofs.YtegehnojbfedlaaDoor
