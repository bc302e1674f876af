/-
  Sizes and depths of values; the item of a key; the simple makers.
-/
import Derived.Test.YtefhongghmimgaaV4
open Go Go.Proofs Go.Pw Go.RowKit
namespace Go.Proofs.Ytefhongghmimgaa
set_option maxRecDepth 4000
set_option linter.unusedVariables false
set_option linter.unusedSimpArgs false
mutual
def nV : V → Nat
  | .mk _ _ _ _ is _ => 1 + nVs is
def nVs : List V → Nat
  | [] => 0
  | v :: r => nV v + nVs r
end
theorem nV_eq (v : V) : nV v = 1 + nVs v.items := by cases v; simp [nV, V.items]
theorem nVs_nil : nVs [] = 0 := by simp [nVs]
theorem nVs_cons (v : V) (l : List V) : nVs (v :: l) = nV v + nVs l := by simp [nVs]
theorem nVs_app : ∀ (l m : List V), nVs (l ++ m) = nVs l + nVs m
  | [], m => by rw [nVs_nil, List.nil_append, Nat.zero_add]
  | v :: r, m => by rw [List.cons_append, nVs_cons, nVs_cons, nVs_app r m]; omega
theorem nV_le : ∀ v, nV v ≤ szV v := by
  refine V.ind fun v ih => ?_
  rw [nV_eq, szV_eq]
  have : ∀ l : List V, (∀ x ∈ l, nV x ≤ szV x) → nVs l ≤ szVs l := by
    intro l
    induction l with
    | nil => intro _; rw [nVs_nil]; omega
    | cons x r ihr =>
      intro h
      have h1 := h x (by simp)
      have h2 := ihr (fun y hy => h y (by simp [hy]))
      rw [nVs_cons, szVs_cons]; omega
  have := this v.items ih
  omega
theorem nVs_le (l : List V) : nVs l ≤ szVs l := by
  induction l with
  | nil => rw [nVs_nil]; omega
  | cons x r ih => have := nV_le x; rw [nVs_cons, szVs_cons]; omega
theorem szVs_take : ∀ (l : List V) (i : Nat), szVs (l.take i) ≤ szVs l
  | [], i => by simp
  | x :: r, 0 => by simp [szVs_nil]
  | x :: r, i + 1 => by have := szVs_take r i; rw [List.take_succ_cons, szVs_cons, szVs_cons]; omega
theorem getD_mem {α : Type} {l : List α} {i : Nat} {d : α} (h : i < l.length) : l.getD i d ∈ l := by
  rw [List.getD_eq_getElem?_getD, List.getElem?_eq_getElem h]; exact List.getElem_mem h
theorem V.small {v : V} {B : Nat} (h : szV v ≤ B) : v.items.length ≤ B ∧ v.keys.length ≤ B ∧ (∀ x ∈ v.items, szV x ≤ B) ∧ szVs v.items ≤ B := by
  have h1 := szVs_len v.items
  have h2 := szV_eq v
  have h3 := szT_len v.keys
  exact ⟨by omega, by omega, fun x hx => by have := szVs_mem hx; omega, by omega⟩
theorem V.few {v : V} {B : Nat} (h : szV v ≤ B) : v.s.size ≤ B ∧ ∀ s ∈ v.keys, s.size ≤ B := by
  have h2 := szV_eq v
  exact ⟨by omega, fun s hs => by have := szT_few s hs; omega⟩
theorem num_ok (n : Int) : Ok Try.prog 30 [vI n] (.agg (cellsV (.mk 2 false n ByteArray.empty [] []))) := by
  refine Ok.of_pwp (by kernel_rfl) Try.func30 rfl (by kernel_rfl) (by kernel_rfl) ?_
  simp (implicitDefEqProofs := false) (disch := omega) only [go_sem, reduceCtorEq, Nat.reduceEqDiff, Nat.reduceBEq, ↓reduceIte, Nat.reduceGT, Nat.reduceAdd, Int.reduceEq, Int.reduceLT, Int.reduceLE, Int.reduceNeg, Int.reduceAdd, Int.reduceSub, Int.reduceMul, Int.reduceDiv, Int.reduceMod, Nat.reduceLT, Nat.reduceLeDiff, Nat.reduceMul, Nat.reduceSub, Int.reduceToNat, go_sem, Nat.le_refl, cellsV, encV_nil, encT_nil, Try.results30]
set_option maxHeartbeats 4000000 in
theorem size_ok : ∀ v, szV v ≤ 1000000 → Ok Try.prog 22 [.agg (cellsV v)] (vI (nV v)) := by
  refine V.ind fun v ih hv => ?_
  obtain ⟨hl, _, hx, hs⟩ := V.small hv
  have hit : ∀ i, i < v.items.length → Ok Try.prog 22 [.agg (cellsV (v.items.getD i default))] (vI (nV (v.items.getD i default))) := fun i hi => ih _ (getD_mem hi) (hx _ (getD_mem hi))
  refine Ok.of_pwp (by kernel_rfl) Try.func22 rfl (by kernel_rfl) (by kernel_rfl) ?_
  generalize hr : vI (nV v) = rr
  simp (implicitDefEqProofs := false) (disch := omega) only [go_sem, reduceCtorEq, Nat.reduceEqDiff, Nat.reduceBEq, ↓reduceIte, Nat.reduceGT, Nat.reduceAdd, Int.reduceEq, Int.reduceLT, Int.reduceLE, Int.reduceNeg, Int.reduceAdd, Int.reduceSub, Int.reduceMul, Int.reduceDiv, Int.reduceMod, Nat.reduceLT, Nat.reduceLeDiff, Nat.reduceMul, Nat.reduceSub, Int.reduceToNat, go_sem, Nat.le_refl, cellsV, Try.results22]
  refine p_loop (ι := { i : Nat // i ≤ v.items.length }) (fun p => ⟨[(9, vI p.1), (8, vI v.items.length), (7, .sl (encV v.items)), (3, vI (1 + nVs (v.items.take p.1) : Nat))], [], [], 0, 0⟩) (fun p => v.items.length - p.1) ⟨0, Nat.zero_le _⟩ ?_ ?_
  · refine ⟨?_, ?_, ?_, ?_, ?_, ?_, ?_⟩ <;> simp only [mem_cons_, mem_nil_, lkp, hold_eq, b_some, frz_self, frz1_self, frzL_self, frzO_self, frzO_box, frzO_iter, frzL_cons, frzL_nil, frz_agg, frz1_row, frz1_nil, frz1_val, frz1_sl, frz1_rr, frz1_ptr, frz1_ms, frz_val, frz_sl, frz_row, frz_ptr, frz_ms, frz_fp, frz_tup, frz_fn, PV.lt, PV.ltL, PObj.lt, decide_true, Bool.true_and, Bool.and_true, Bool.and_self, Nat.reduceLT, Nat.reduceLeDiff, Nat.reduceEqDiff, if_true, if_false, ↓reduceIte, and_true, true_and, Nat.zero_le, reduceCtorEq, eq_self, decide_eq_true_eq, Int.natCast_zero, List.take_zero, nVs_nil] <;> try first | omega | ((repeat' (first | exact And.intro rfl (by omega) | (refine And.intro ?_ ?_))) <;> first | rfl | omega | (congr 3; omega) | (congr 2; omega))
  · rintro ⟨i, h1⟩
    simp only
    simp (implicitDefEqProofs := false) (disch := omega) only [go_sem, reduceCtorEq, Nat.reduceEqDiff, Nat.reduceBEq, ↓reduceIte, Nat.reduceGT, Nat.reduceAdd, Int.reduceEq, Int.reduceLT, Int.reduceLE, Int.reduceNeg, Int.reduceAdd, Int.reduceSub, Int.reduceMul, Int.reduceDiv, Int.reduceMod, Nat.reduceLT, Nat.reduceLeDiff, Nat.reduceMul, Nat.reduceSub, Int.reduceToNat, go_sem, Nat.le_refl, cellsV, Try.results22]
    with_reducible refine ifK_split (fun hlt => ?_) (fun hge => ?_)
    · have hi : i < v.items.length := by omega
      have e1 := take_snocG (a := v.items) (d := default) hi
      have e2 := nVs_app (v.items.take i) [v.items.getD i default]
      rw [← e1, nVs_cons, nVs_nil] at e2
      have e3 := nVs_le (v.items.take (i + 1))
      have e4 := szVs_take v.items (i + 1)
      have e5 : IntKind.wrap .i64 (((1 + nVs (v.items.take i) : Nat) : Int) + (nV (v.items.getD i default) : Int)) = ((1 + nVs (v.items.take (i + 1)) : Nat) : Int) := by rw [IntKind.wrap_i64]; omega
      simp (implicitDefEqProofs := false) (disch := omega) only [go_sem, reduceCtorEq, Nat.reduceEqDiff, Nat.reduceBEq, ↓reduceIte, Nat.reduceGT, Nat.reduceAdd, Int.reduceEq, Int.reduceLT, Int.reduceLE, Int.reduceNeg, Int.reduceAdd, Int.reduceSub, Int.reduceMul, Int.reduceDiv, Int.reduceMod, Nat.reduceLT, Nat.reduceLeDiff, Nat.reduceMul, Nat.reduceSub, Int.reduceToNat, go_sem, Nat.le_refl, cellsV, Try.results22]
      with_reducible refine CallOk.of (hit i hi) rfl ?_
      simp (implicitDefEqProofs := false) (disch := omega) only [go_sem, reduceCtorEq, Nat.reduceEqDiff, Nat.reduceBEq, ↓reduceIte, Nat.reduceGT, Nat.reduceAdd, Int.reduceEq, Int.reduceLT, Int.reduceLE, Int.reduceNeg, Int.reduceAdd, Int.reduceSub, Int.reduceMul, Int.reduceDiv, Int.reduceMod, Nat.reduceLT, Nat.reduceLeDiff, Nat.reduceMul, Nat.reduceSub, Int.reduceToNat, go_sem, Nat.le_refl, cellsV, e5, Try.results22]
      refine ⟨⟨i + 1, hi⟩, by simp only; omega, ?_⟩
      refine ⟨?_, ?_, ?_, ?_, ?_, ?_, ?_⟩ <;> simp only [mem_cons_, mem_nil_, lkp, hold_eq, b_some, frz_self, frz1_self, frzL_self, frzO_self, frzO_box, frzO_iter, frzL_cons, frzL_nil, frz_agg, frz1_row, frz1_nil, frz1_val, frz1_sl, frz1_rr, frz1_ptr, frz1_ms, frz_val, frz_sl, frz_row, frz_ptr, frz_ms, frz_fp, frz_tup, frz_fn, PV.lt, PV.ltL, PObj.lt, decide_true, Bool.true_and, Bool.and_true, Bool.and_self, Nat.reduceLT, Nat.reduceLeDiff, Nat.reduceEqDiff, if_true, if_false, ↓reduceIte, and_true, true_and, Nat.zero_le, reduceCtorEq, eq_self, decide_eq_true_eq, Int.natCast_add, Int.natCast_one] <;> try first | omega | ((repeat' (first | exact And.intro rfl (by omega) | (refine And.intro ?_ ?_))) <;> first | rfl | omega | (congr 3; omega) | (congr 2; omega))
    · have e1 : v.items.take i = v.items := List.take_of_length_le (by omega)
      rw [← hr, nV_eq, e1]
      simp (implicitDefEqProofs := false) (disch := omega) only [go_sem, reduceCtorEq, Nat.reduceEqDiff, Nat.reduceBEq, ↓reduceIte, Nat.reduceGT, Nat.reduceAdd, Int.reduceEq, Int.reduceLT, Int.reduceLE, Int.reduceNeg, Int.reduceAdd, Int.reduceSub, Int.reduceMul, Int.reduceDiv, Int.reduceMod, Nat.reduceLT, Nat.reduceLeDiff, Nat.reduceMul, Nat.reduceSub, Int.reduceToNat, go_sem, Nat.le_refl, cellsV, Try.results22]
set_option maxHeartbeats 4000000 in
theorem rsize_ok : ∀ v, szV v ≤ 1000000 → Ok Try.prog 23 [.agg (cellsV v)] (vI (nV v)) := by
  refine V.ind fun v ih hv => ?_
  obtain ⟨hl, _, hx, hs⟩ := V.small hv
  have hit : ∀ i, i < v.items.length → Ok Try.prog 23 [.agg (cellsV (v.items.getD i default))] (vI (nV (v.items.getD i default))) := fun i hi => ih _ (getD_mem hi) (hx _ (getD_mem hi))
  refine Ok.of_pwp (by kernel_rfl) Try.func23 rfl (by kernel_rfl) (by kernel_rfl) ?_
  generalize hr : vI (nV v) = rr
  simp (implicitDefEqProofs := false) (disch := omega) only [go_sem, reduceCtorEq, Nat.reduceEqDiff, Nat.reduceBEq, ↓reduceIte, Nat.reduceGT, Nat.reduceAdd, Int.reduceEq, Int.reduceLT, Int.reduceLE, Int.reduceNeg, Int.reduceAdd, Int.reduceSub, Int.reduceMul, Int.reduceDiv, Int.reduceMod, Nat.reduceLT, Nat.reduceLeDiff, Nat.reduceMul, Nat.reduceSub, Int.reduceToNat, go_sem, Nat.le_refl, cellsV, Try.results23]
  refine p_loop (ι := { i : Nat // i ≤ v.items.length }) (fun p => ⟨[(8, vI p.1), (7, vI v.items.length), (3, vI (1 + nVs (v.items.take p.1) : Nat)), (1, .ptr 0 0)], [(0, .box 27 (cellsV v))], [], 1, 0⟩) (fun p => v.items.length - p.1) ⟨0, Nat.zero_le _⟩ ?_ ?_
  · refine ⟨?_, ?_, ?_, ?_, ?_, ?_, ?_⟩ <;> simp only [mem_cons_, mem_nil_, lkp, hold_eq, b_some, frz_self, frz1_self, frzL_self, frzO_self, frzO_box, frzO_iter, frzL_cons, frzL_nil, frz_agg, frz1_row, frz1_nil, frz1_val, frz1_sl, frz1_rr, frz1_ptr, frz1_ms, frz_val, frz_sl, frz_row, frz_ptr, frz_ms, frz_fp, frz_tup, frz_fn, PV.lt, PV.ltL, PObj.lt, decide_true, Bool.true_and, Bool.and_true, Bool.and_self, Nat.reduceLT, Nat.reduceLeDiff, Nat.reduceEqDiff, if_true, if_false, ↓reduceIte, and_true, true_and, Nat.zero_le, reduceCtorEq, eq_self, decide_eq_true_eq, Int.natCast_zero, List.take_zero, nVs_nil] <;> try first | omega | ((repeat' (first | exact And.intro rfl (by omega) | (refine And.intro ?_ ?_))) <;> first | rfl | omega | (congr 3; omega) | (congr 2; omega))
  · rintro ⟨i, h1⟩
    simp only
    simp (implicitDefEqProofs := false) (disch := omega) only [go_sem, reduceCtorEq, Nat.reduceEqDiff, Nat.reduceBEq, ↓reduceIte, Nat.reduceGT, Nat.reduceAdd, Int.reduceEq, Int.reduceLT, Int.reduceLE, Int.reduceNeg, Int.reduceAdd, Int.reduceSub, Int.reduceMul, Int.reduceDiv, Int.reduceMod, Nat.reduceLT, Nat.reduceLeDiff, Nat.reduceMul, Nat.reduceSub, Int.reduceToNat, go_sem, Nat.le_refl, cellsV, Try.results23]
    with_reducible refine ifK_split (fun hlt => ?_) (fun hge => ?_)
    · have hi : i < v.items.length := by omega
      have e1 := take_snocG (a := v.items) (d := default) hi
      have e2 := nVs_app (v.items.take i) [v.items.getD i default]
      rw [← e1, nVs_cons, nVs_nil] at e2
      have e3 := nVs_le (v.items.take (i + 1))
      have e4 := szVs_take v.items (i + 1)
      have e5 : IntKind.wrap .i64 (((1 + nVs (v.items.take i) : Nat) : Int) + (nV (v.items.getD i default) : Int)) = ((1 + nVs (v.items.take (i + 1)) : Nat) : Int) := by rw [IntKind.wrap_i64]; omega
      simp (implicitDefEqProofs := false) (disch := omega) only [go_sem, reduceCtorEq, Nat.reduceEqDiff, Nat.reduceBEq, ↓reduceIte, Nat.reduceGT, Nat.reduceAdd, Int.reduceEq, Int.reduceLT, Int.reduceLE, Int.reduceNeg, Int.reduceAdd, Int.reduceSub, Int.reduceMul, Int.reduceDiv, Int.reduceMod, Nat.reduceLT, Nat.reduceLeDiff, Nat.reduceMul, Nat.reduceSub, Int.reduceToNat, go_sem, Nat.le_refl, cellsV, Try.results23]
      with_reducible refine CallOk.of (hit i hi) rfl ?_
      simp (implicitDefEqProofs := false) (disch := omega) only [go_sem, reduceCtorEq, Nat.reduceEqDiff, Nat.reduceBEq, ↓reduceIte, Nat.reduceGT, Nat.reduceAdd, Int.reduceEq, Int.reduceLT, Int.reduceLE, Int.reduceNeg, Int.reduceAdd, Int.reduceSub, Int.reduceMul, Int.reduceDiv, Int.reduceMod, Nat.reduceLT, Nat.reduceLeDiff, Nat.reduceMul, Nat.reduceSub, Int.reduceToNat, go_sem, Nat.le_refl, cellsV, e5, Try.results23]
      refine ⟨⟨i + 1, hi⟩, by simp only; omega, ?_⟩
      refine ⟨?_, ?_, ?_, ?_, ?_, ?_, ?_⟩ <;> simp only [mem_cons_, mem_nil_, lkp, hold_eq, b_some, frz_self, frz1_self, frzL_self, frzO_self, frzO_box, frzO_iter, frzL_cons, frzL_nil, frz_agg, frz1_row, frz1_nil, frz1_val, frz1_sl, frz1_rr, frz1_ptr, frz1_ms, frz_val, frz_sl, frz_row, frz_ptr, frz_ms, frz_fp, frz_tup, frz_fn, PV.lt, PV.ltL, PObj.lt, decide_true, Bool.true_and, Bool.and_true, Bool.and_self, Nat.reduceLT, Nat.reduceLeDiff, Nat.reduceEqDiff, if_true, if_false, ↓reduceIte, and_true, true_and, Nat.zero_le, reduceCtorEq, eq_self, decide_eq_true_eq, Int.natCast_add, Int.natCast_one] <;> try first | omega | ((repeat' (first | exact And.intro rfl (by omega) | (refine And.intro ?_ ?_))) <;> first | rfl | omega | (congr 3; omega) | (congr 2; omega))
    · have e1 : v.items.take i = v.items := List.take_of_length_le (by omega)
      rw [← hr, nV_eq, e1]
      simp (implicitDefEqProofs := false) (disch := omega) only [go_sem, reduceCtorEq, Nat.reduceEqDiff, Nat.reduceBEq, ↓reduceIte, Nat.reduceGT, Nat.reduceAdd, Int.reduceEq, Int.reduceLT, Int.reduceLE, Int.reduceNeg, Int.reduceAdd, Int.reduceSub, Int.reduceMul, Int.reduceDiv, Int.reduceMod, Nat.reduceLT, Nat.reduceLeDiff, Nat.reduceMul, Nat.reduceSub, Int.reduceToNat, go_sem, Nat.le_refl, cellsV, Try.results23]
mutual
def dV : V → Nat
  | .mk k _ _ _ is _ => if k < 4 then 0 else dVs is + 1
def dVs : List V → Nat
  | [] => 0
  | v :: r => max (dV v) (dVs r)
end
theorem dV_eq (v : V) : dV v = if v.kind < 4 then 0 else dVs v.items + 1 := by cases v; rw [dV]; rfl
theorem dVs_nil : dVs [] = 0 := by simp [dVs]
theorem dVs_cons (v : V) (l : List V) : dVs (v :: l) = max (dV v) (dVs l) := by simp [dVs]
theorem dVs_app : ∀ (l m : List V), dVs (l ++ m) = max (dVs l) (dVs m)
  | [], m => by rw [dVs_nil, List.nil_append, Nat.zero_max]
  | v :: r, m => by rw [List.cons_append, dVs_cons, dVs_cons, dVs_app r m, Nat.max_assoc]
theorem dV_le : ∀ v, dV v ≤ szV v := by
  refine V.ind fun v ih => ?_
  rw [dV_eq, szV_eq]
  have : ∀ l : List V, (∀ x ∈ l, dV x ≤ szV x) → dVs l ≤ szVs l := by
    intro l
    induction l with
    | nil => intro _; rw [dVs_nil]; omega
    | cons x r ihr =>
      intro h
      have h1 := h x (by simp)
      have h2 := ihr (fun y hy => h y (by simp [hy]))
      rw [dVs_cons, szVs_cons]; omega
  have := this v.items ih
  split <;> omega
theorem dVs_le (l : List V) : dVs l ≤ szVs l := by
  induction l with
  | nil => rw [dVs_nil]; omega
  | cons x r ih => have := dV_le x; rw [dVs_cons, szVs_cons]; omega
set_option maxHeartbeats 4000000 in
theorem depth_ok : ∀ v, szV v ≤ 1000000 → Ok Try.prog 24 [.agg (cellsV v)] (vI (dV v)) := by
  refine V.ind fun v ih hv => ?_
  obtain ⟨hl, _, hx, hs⟩ := V.small hv
  have hit : ∀ i, i < v.items.length → Ok Try.prog 24 [.agg (cellsV (v.items.getD i default))] (vI (dV (v.items.getD i default))) := fun i hi => ih _ (getD_mem hi) (hx _ (getD_mem hi))
  refine Ok.of_pwp (by kernel_rfl) Try.func24 rfl (by kernel_rfl) (by kernel_rfl) ?_
  have hr := dV_eq v
  by_cases hk : v.kind < 4
  · rw [hr, if_pos hk]
    simp (implicitDefEqProofs := false) (disch := omega) only [go_sem, reduceCtorEq, Nat.reduceEqDiff, Nat.reduceBEq, ↓reduceIte, Nat.reduceGT, Nat.reduceAdd, Int.reduceEq, Int.reduceLT, Int.reduceLE, Int.reduceNeg, Int.reduceAdd, Int.reduceSub, Int.reduceMul, Int.reduceDiv, Int.reduceMod, Nat.reduceLT, Nat.reduceLeDiff, Nat.reduceMul, Nat.reduceSub, Int.reduceToNat, go_sem, Nat.le_refl, cellsV, Try.results24]
    rfl
  rw [if_neg hk] at hr
  generalize hr' : dV v = rr at *
  simp (implicitDefEqProofs := false) (disch := omega) only [go_sem, reduceCtorEq, Nat.reduceEqDiff, Nat.reduceBEq, ↓reduceIte, Nat.reduceGT, Nat.reduceAdd, Int.reduceEq, Int.reduceLT, Int.reduceLE, Int.reduceNeg, Int.reduceAdd, Int.reduceSub, Int.reduceMul, Int.reduceDiv, Int.reduceMod, Nat.reduceLT, Nat.reduceLeDiff, Nat.reduceMul, Nat.reduceSub, Int.reduceToNat, go_sem, Nat.le_refl, cellsV, Try.results24]
  refine p_loop (ι := { i : Nat // i ≤ v.items.length }) (fun p => ⟨[(12, vI p.1), (11, vI v.items.length), (10, .sl (encV v.items)), (3, vI (dVs (v.items.take p.1) : Nat))], [], [], 0, 0⟩) (fun p => v.items.length - p.1) ⟨0, Nat.zero_le _⟩ ?_ ?_
  · refine ⟨?_, ?_, ?_, ?_, ?_, ?_, ?_⟩ <;> simp only [mem_cons_, mem_nil_, lkp, hold_eq, b_some, frz_self, frz1_self, frzL_self, frzO_self, frzO_box, frzO_iter, frzL_cons, frzL_nil, frz_agg, frz1_row, frz1_nil, frz1_val, frz1_sl, frz1_rr, frz1_ptr, frz1_ms, frz_val, frz_sl, frz_row, frz_ptr, frz_ms, frz_fp, frz_tup, frz_fn, PV.lt, PV.ltL, PObj.lt, decide_true, Bool.true_and, Bool.and_true, Bool.and_self, Nat.reduceLT, Nat.reduceLeDiff, Nat.reduceEqDiff, if_true, if_false, ↓reduceIte, and_true, true_and, Nat.zero_le, reduceCtorEq, eq_self, decide_eq_true_eq, Int.natCast_zero, List.take_zero, dVs_nil] <;> try first | omega | ((repeat' (first | exact And.intro rfl (by omega) | (refine And.intro ?_ ?_))) <;> first | rfl | omega | (congr 3; omega) | (congr 2; omega))
  · rintro ⟨i, h1⟩
    simp only
    simp (implicitDefEqProofs := false) (disch := omega) only [go_sem, reduceCtorEq, Nat.reduceEqDiff, Nat.reduceBEq, ↓reduceIte, Nat.reduceGT, Nat.reduceAdd, Int.reduceEq, Int.reduceLT, Int.reduceLE, Int.reduceNeg, Int.reduceAdd, Int.reduceSub, Int.reduceMul, Int.reduceDiv, Int.reduceMod, Nat.reduceLT, Nat.reduceLeDiff, Nat.reduceMul, Nat.reduceSub, Int.reduceToNat, go_sem, Nat.le_refl, cellsV, Try.results24]
    with_reducible refine ifK_split (fun hlt => ?_) (fun hge => ?_)
    · have hi : i < v.items.length := by omega
      have e1 := take_snocG (a := v.items) (d := default) hi
      have e2 := dVs_app (v.items.take i) [v.items.getD i default]
      rw [← e1, dVs_cons, dVs_nil] at e2
      simp (implicitDefEqProofs := false) (disch := omega) only [go_sem, reduceCtorEq, Nat.reduceEqDiff, Nat.reduceBEq, ↓reduceIte, Nat.reduceGT, Nat.reduceAdd, Int.reduceEq, Int.reduceLT, Int.reduceLE, Int.reduceNeg, Int.reduceAdd, Int.reduceSub, Int.reduceMul, Int.reduceDiv, Int.reduceMod, Nat.reduceLT, Nat.reduceLeDiff, Nat.reduceMul, Nat.reduceSub, Int.reduceToNat, go_sem, Nat.le_refl, cellsV, Try.results24]
      with_reducible refine CallOk.of (hit i hi) rfl ?_
      simp (implicitDefEqProofs := false) (disch := omega) only [go_sem, reduceCtorEq, Nat.reduceEqDiff, Nat.reduceBEq, ↓reduceIte, Nat.reduceGT, Nat.reduceAdd, Int.reduceEq, Int.reduceLT, Int.reduceLE, Int.reduceNeg, Int.reduceAdd, Int.reduceSub, Int.reduceMul, Int.reduceDiv, Int.reduceMod, Nat.reduceLT, Nat.reduceLeDiff, Nat.reduceMul, Nat.reduceSub, Int.reduceToNat, go_sem, Nat.le_refl, cellsV, Try.results24]
      refine ⟨⟨i + 1, hi⟩, by simp only; omega, ?_⟩
      refine ⟨?_, ?_, ?_, ?_, ?_, ?_, ?_⟩ <;> simp only [mem_cons_, mem_nil_, lkp, hold_eq, b_some, frz_self, frz1_self, frzL_self, frzO_self, frzO_box, frzO_iter, frzL_cons, frzL_nil, frz_agg, frz1_row, frz1_nil, frz1_val, frz1_sl, frz1_rr, frz1_ptr, frz1_ms, frz_val, frz_sl, frz_row, frz_ptr, frz_ms, frz_fp, frz_tup, frz_fn, PV.lt, PV.ltL, PObj.lt, decide_true, Bool.true_and, Bool.and_true, Bool.and_self, Nat.reduceLT, Nat.reduceLeDiff, Nat.reduceEqDiff, if_true, if_false, ↓reduceIte, and_true, true_and, Nat.zero_le, reduceCtorEq, eq_self, decide_eq_true_eq, Int.natCast_add, Int.natCast_one] <;> try first | omega | ((repeat' (first | exact And.intro rfl (by omega) | (refine And.intro ?_ ?_))) <;> first | rfl | omega | (congr 3; omega) | (congr 2; omega))
    · have e1 : v.items.take i = v.items := List.take_of_length_le (by omega)
      have e3 := dVs_le v.items
      rw [hr]
      rw [e1]
      simp (implicitDefEqProofs := false) (disch := omega) only [go_sem, reduceCtorEq, Nat.reduceEqDiff, Nat.reduceBEq, ↓reduceIte, Nat.reduceGT, Nat.reduceAdd, Int.reduceEq, Int.reduceLT, Int.reduceLE, Int.reduceNeg, Int.reduceAdd, Int.reduceSub, Int.reduceMul, Int.reduceDiv, Int.reduceMod, Nat.reduceLT, Nat.reduceLeDiff, Nat.reduceMul, Nat.reduceSub, Int.reduceToNat, go_sem, Nat.le_refl, cellsV, Try.results24]
      rfl
set_option maxHeartbeats 4000000 in
theorem rdepth_ok : ∀ v, szV v ≤ 1000000 → Ok Try.prog 25 [.agg (cellsV v)] (vI (dV v)) := by
  refine V.ind fun v ih hv => ?_
  obtain ⟨hl, _, hx, hs⟩ := V.small hv
  have hit : ∀ i, i < v.items.length → Ok Try.prog 25 [.agg (cellsV (v.items.getD i default))] (vI (dV (v.items.getD i default))) := fun i hi => ih _ (getD_mem hi) (hx _ (getD_mem hi))
  refine Ok.of_pwp (by kernel_rfl) Try.func25 rfl (by kernel_rfl) (by kernel_rfl) ?_
  have hr := dV_eq v
  by_cases hk : v.kind < 4
  · rw [hr, if_pos hk]
    simp (implicitDefEqProofs := false) (disch := omega) only [go_sem, reduceCtorEq, Nat.reduceEqDiff, Nat.reduceBEq, ↓reduceIte, Nat.reduceGT, Nat.reduceAdd, Int.reduceEq, Int.reduceLT, Int.reduceLE, Int.reduceNeg, Int.reduceAdd, Int.reduceSub, Int.reduceMul, Int.reduceDiv, Int.reduceMod, Nat.reduceLT, Nat.reduceLeDiff, Nat.reduceMul, Nat.reduceSub, Int.reduceToNat, go_sem, Nat.le_refl, cellsV, Try.results25]
    rfl
  rw [if_neg hk] at hr
  generalize hr' : dV v = rr at *
  simp (implicitDefEqProofs := false) (disch := omega) only [go_sem, reduceCtorEq, Nat.reduceEqDiff, Nat.reduceBEq, ↓reduceIte, Nat.reduceGT, Nat.reduceAdd, Int.reduceEq, Int.reduceLT, Int.reduceLE, Int.reduceNeg, Int.reduceAdd, Int.reduceSub, Int.reduceMul, Int.reduceDiv, Int.reduceMod, Nat.reduceLT, Nat.reduceLeDiff, Nat.reduceMul, Nat.reduceSub, Int.reduceToNat, go_sem, Nat.le_refl, cellsV, Try.results25]
  refine p_loop (ι := { i : Nat // i ≤ v.items.length }) (fun p => ⟨[(11, vI p.1), (10, vI v.items.length), (3, vI (dVs (v.items.take p.1) + 1 : Nat)), (1, .ptr 0 0)], [(0, .box 27 (cellsV v))], [], 1, 0⟩) (fun p => v.items.length - p.1) ⟨0, Nat.zero_le _⟩ ?_ ?_
  · refine ⟨?_, ?_, ?_, ?_, ?_, ?_, ?_⟩ <;> simp only [mem_cons_, mem_nil_, lkp, hold_eq, b_some, frz_self, frz1_self, frzL_self, frzO_self, frzO_box, frzO_iter, frzL_cons, frzL_nil, frz_agg, frz1_row, frz1_nil, frz1_val, frz1_sl, frz1_rr, frz1_ptr, frz1_ms, frz_val, frz_sl, frz_row, frz_ptr, frz_ms, frz_fp, frz_tup, frz_fn, PV.lt, PV.ltL, PObj.lt, decide_true, Bool.true_and, Bool.and_true, Bool.and_self, Nat.reduceLT, Nat.reduceLeDiff, Nat.reduceEqDiff, if_true, if_false, ↓reduceIte, and_true, true_and, Nat.zero_le, reduceCtorEq, eq_self, decide_eq_true_eq, Int.natCast_zero, List.take_zero, dVs_nil] <;> try first | omega | ((repeat' (first | exact And.intro rfl (by omega) | (refine And.intro ?_ ?_))) <;> first | rfl | omega | (congr 3; omega) | (congr 2; omega))
  · rintro ⟨i, h1⟩
    simp only
    simp (implicitDefEqProofs := false) (disch := omega) only [go_sem, reduceCtorEq, Nat.reduceEqDiff, Nat.reduceBEq, ↓reduceIte, Nat.reduceGT, Nat.reduceAdd, Int.reduceEq, Int.reduceLT, Int.reduceLE, Int.reduceNeg, Int.reduceAdd, Int.reduceSub, Int.reduceMul, Int.reduceDiv, Int.reduceMod, Nat.reduceLT, Nat.reduceLeDiff, Nat.reduceMul, Nat.reduceSub, Int.reduceToNat, go_sem, Nat.le_refl, cellsV, Try.results25]
    with_reducible refine ifK_split (fun hlt => ?_) (fun hge => ?_)
    · have hi : i < v.items.length := by omega
      have e1 := take_snocG (a := v.items) (d := default) hi
      have e2 := dVs_app (v.items.take i) [v.items.getD i default]
      rw [← e1, dVs_cons, dVs_nil] at e2
      have e3 := dV_le (v.items.getD i default)
      have e4 := hx _ (getD_mem (d := default) hi)
      simp (implicitDefEqProofs := false) (disch := omega) only [go_sem, reduceCtorEq, Nat.reduceEqDiff, Nat.reduceBEq, ↓reduceIte, Nat.reduceGT, Nat.reduceAdd, Int.reduceEq, Int.reduceLT, Int.reduceLE, Int.reduceNeg, Int.reduceAdd, Int.reduceSub, Int.reduceMul, Int.reduceDiv, Int.reduceMod, Nat.reduceLT, Nat.reduceLeDiff, Nat.reduceMul, Nat.reduceSub, Int.reduceToNat, go_sem, Nat.le_refl, cellsV, Try.results25]
      with_reducible refine CallOk.of (hit i hi) rfl ?_
      simp (implicitDefEqProofs := false) (disch := omega) only [go_sem, reduceCtorEq, Nat.reduceEqDiff, Nat.reduceBEq, ↓reduceIte, Nat.reduceGT, Nat.reduceAdd, Int.reduceEq, Int.reduceLT, Int.reduceLE, Int.reduceNeg, Int.reduceAdd, Int.reduceSub, Int.reduceMul, Int.reduceDiv, Int.reduceMod, Nat.reduceLT, Nat.reduceLeDiff, Nat.reduceMul, Nat.reduceSub, Int.reduceToNat, go_sem, Nat.le_refl, cellsV, Try.results25]
      refine ⟨⟨i + 1, hi⟩, by simp only; omega, ?_⟩
      refine ⟨?_, ?_, ?_, ?_, ?_, ?_, ?_⟩ <;> simp only [mem_cons_, mem_nil_, lkp, hold_eq, b_some, frz_self, frz1_self, frzL_self, frzO_self, frzO_box, frzO_iter, frzL_cons, frzL_nil, frz_agg, frz1_row, frz1_nil, frz1_val, frz1_sl, frz1_rr, frz1_ptr, frz1_ms, frz_val, frz_sl, frz_row, frz_ptr, frz_ms, frz_fp, frz_tup, frz_fn, PV.lt, PV.ltL, PObj.lt, decide_true, Bool.true_and, Bool.and_true, Bool.and_self, Nat.reduceLT, Nat.reduceLeDiff, Nat.reduceEqDiff, if_true, if_false, ↓reduceIte, and_true, true_and, Nat.zero_le, reduceCtorEq, eq_self, decide_eq_true_eq, Int.natCast_add, Int.natCast_one] <;> try first | omega | ((repeat' (first | exact And.intro rfl (by omega) | (refine And.intro ?_ ?_))) <;> first | rfl | omega | (congr 3; omega) | (congr 2; omega))
    · have e1 : v.items.take i = v.items := List.take_of_length_le (by omega)
      rw [hr]
      rw [e1]
      simp (implicitDefEqProofs := false) (disch := omega) only [go_sem, reduceCtorEq, Nat.reduceEqDiff, Nat.reduceBEq, ↓reduceIte, Nat.reduceGT, Nat.reduceAdd, Int.reduceEq, Int.reduceLT, Int.reduceLE, Int.reduceNeg, Int.reduceAdd, Int.reduceSub, Int.reduceMul, Int.reduceDiv, Int.reduceMod, Nat.reduceLT, Nat.reduceLeDiff, Nat.reduceMul, Nat.reduceSub, Int.reduceToNat, go_sem, Nat.le_refl, cellsV, Try.results25]
def itemF (v : V) (key : ByteArray) : PV := if foundT v.keys key = true then .tup [.agg (cellsV (v.items.getD (posT v.keys key) default)), vB true] else .tup [.agg (cellsV vZero), vB false]
set_option maxHeartbeats 4000000 in
theorem item_ok (v : V) (key : ByteArray) (hv : szV v ≤ 1000000) (hs : SortT v.keys) (hk : v.keys.length ≤ v.items.length) : Ok Try.prog 18 [.agg (cellsV v), vS key] (itemF v key) := by
  obtain ⟨hl, hl2, hx, _⟩ := V.small hv
  have hb := bs_ok v.keys key hs (by omega)
  refine Ok.of_pwp (by kernel_rfl) Try.func18 rfl (by kernel_rfl) (by kernel_rfl) ?_
  unfold itemF
  cases hf : foundT v.keys key with
  | true =>
    rw [if_pos rfl]
    have hp : posT v.keys key < v.keys.length := by unfold foundT at hf; simp at hf; exact hf.1
    rw [hf] at hb
    simp (implicitDefEqProofs := false) (disch := omega) only [go_sem, reduceCtorEq, Nat.reduceEqDiff, Nat.reduceBEq, ↓reduceIte, Nat.reduceGT, Nat.reduceAdd, Int.reduceEq, Int.reduceLT, Int.reduceLE, Int.reduceNeg, Int.reduceAdd, Int.reduceSub, Int.reduceMul, Int.reduceDiv, Int.reduceMod, Nat.reduceLT, Nat.reduceLeDiff, Nat.reduceMul, Nat.reduceSub, Int.reduceToNat, go_sem, Nat.le_refl, cellsV, Try.results18, encV_nil, encT_nil, vZero]
    with_reducible refine CallOk.of (hb) rfl ?_
    simp (implicitDefEqProofs := false) (disch := omega) only [go_sem, reduceCtorEq, Nat.reduceEqDiff, Nat.reduceBEq, ↓reduceIte, Nat.reduceGT, Nat.reduceAdd, Int.reduceEq, Int.reduceLT, Int.reduceLE, Int.reduceNeg, Int.reduceAdd, Int.reduceSub, Int.reduceMul, Int.reduceDiv, Int.reduceMod, Nat.reduceLT, Nat.reduceLeDiff, Nat.reduceMul, Nat.reduceSub, Int.reduceToNat, go_sem, Nat.le_refl, cellsV, Try.results18, encV_nil, encT_nil, vZero]
  | false =>
    rw [if_neg (by decide)]
    rw [hf] at hb
    simp (implicitDefEqProofs := false) (disch := omega) only [go_sem, reduceCtorEq, Nat.reduceEqDiff, Nat.reduceBEq, ↓reduceIte, Nat.reduceGT, Nat.reduceAdd, Int.reduceEq, Int.reduceLT, Int.reduceLE, Int.reduceNeg, Int.reduceAdd, Int.reduceSub, Int.reduceMul, Int.reduceDiv, Int.reduceMod, Nat.reduceLT, Nat.reduceLeDiff, Nat.reduceMul, Nat.reduceSub, Int.reduceToNat, go_sem, Nat.le_refl, cellsV, Try.results18, encV_nil, encT_nil, vZero]
    with_reducible refine CallOk.of (hb) rfl ?_
    simp (implicitDefEqProofs := false) (disch := omega) only [go_sem, reduceCtorEq, Nat.reduceEqDiff, Nat.reduceBEq, ↓reduceIte, Nat.reduceGT, Nat.reduceAdd, Int.reduceEq, Int.reduceLT, Int.reduceLE, Int.reduceNeg, Int.reduceAdd, Int.reduceSub, Int.reduceMul, Int.reduceDiv, Int.reduceMod, Nat.reduceLT, Nat.reduceLeDiff, Nat.reduceMul, Nat.reduceSub, Int.reduceToNat, go_sem, Nat.le_refl, cellsV, Try.results18, encV_nil, encT_nil, vZero]
def findF (l : List ByteArray) (key : ByteArray) : Int := if (l.any fun s => decide (s = key)) = true then (l.findIdx (fun s => decide (s = key)) : Int) else -1
set_option maxHeartbeats 4000000 in
theorem find_ok (v : V) (key : ByteArray) (hv : szV v ≤ 1000000) : Ok Try.prog 19 [.agg (cellsV v), vS key] (vI (findF v.keys key)) := by
  obtain ⟨hl, hl2, hx, _⟩ := V.small hv
  refine Ok.of_pwp (by kernel_rfl) Try.func19 rfl (by kernel_rfl) (by kernel_rfl) ?_
  generalize hr : findF v.keys key = rr
  simp (implicitDefEqProofs := false) (disch := omega) only [go_sem, reduceCtorEq, Nat.reduceEqDiff, Nat.reduceBEq, ↓reduceIte, Nat.reduceGT, Nat.reduceAdd, Int.reduceEq, Int.reduceLT, Int.reduceLE, Int.reduceNeg, Int.reduceAdd, Int.reduceSub, Int.reduceMul, Int.reduceDiv, Int.reduceMod, Nat.reduceLT, Nat.reduceLeDiff, Nat.reduceMul, Nat.reduceSub, Int.reduceToNat, go_sem, Nat.le_refl, cellsV, Try.results19, encV_nil, encT_nil]
  refine p_loop (ι := { i : Nat // i ≤ v.keys.length ∧ (v.keys.take i).any (fun s => decide (s = key)) = false }) (fun p => ⟨[(9, vI p.1), (8, vI v.keys.length), (1, vS key), (2, .ptr 0 0)], [(0, .box 27 (cellsV v))], [], 1, 0⟩) (fun p => v.keys.length - p.1) ⟨0, Nat.zero_le _, by simp⟩ ?_ ?_
  · refine ⟨?_, ?_, ?_, ?_, ?_, ?_, ?_⟩ <;> simp only [mem_cons_, mem_nil_, lkp, hold_eq, b_some, frz_self, frz1_self, frzL_self, frzO_self, frzO_box, frzO_iter, frzL_cons, frzL_nil, frz_agg, frz1_row, frz1_nil, frz1_val, frz1_sl, frz1_rr, frz1_ptr, frz1_ms, frz_val, frz_sl, frz_row, frz_ptr, frz_ms, frz_fp, frz_tup, frz_fn, PV.lt, PV.ltL, PObj.lt, decide_true, Bool.true_and, Bool.and_true, Bool.and_self, Nat.reduceLT, Nat.reduceLeDiff, Nat.reduceEqDiff, if_true, if_false, ↓reduceIte, and_true, true_and, Nat.zero_le, reduceCtorEq, eq_self, decide_eq_true_eq, Int.natCast_zero] <;> try first | omega | ((repeat' (first | exact And.intro rfl (by omega) | (refine And.intro ?_ ?_))) <;> first | rfl | omega | (congr 3; omega) | (congr 2; omega))
  · rintro ⟨i, h1, h2⟩
    simp only
    simp (implicitDefEqProofs := false) (disch := omega) only [go_sem, reduceCtorEq, Nat.reduceEqDiff, Nat.reduceBEq, ↓reduceIte, Nat.reduceGT, Nat.reduceAdd, Int.reduceEq, Int.reduceLT, Int.reduceLE, Int.reduceNeg, Int.reduceAdd, Int.reduceSub, Int.reduceMul, Int.reduceDiv, Int.reduceMod, Nat.reduceLT, Nat.reduceLeDiff, Nat.reduceMul, Nat.reduceSub, Int.reduceToNat, go_sem, Nat.le_refl, cellsV, Try.results19, encV_nil, encT_nil]
    with_reducible refine ifK_split (fun hlt => ?_) (fun hge => ?_)
    · have hi : i < v.keys.length := by omega
      have eg : v.keys.getD i ByteArray.empty = v.keys[i] := by rw [List.getD_eq_getElem?_getD, List.getElem?_eq_getElem hi]; rfl
      by_cases he : v.keys.getD i ByteArray.empty = key
      · simp (implicitDefEqProofs := false) (disch := omega) only [go_sem, reduceCtorEq, Nat.reduceEqDiff, Nat.reduceBEq, ↓reduceIte, Nat.reduceGT, Nat.reduceAdd, Int.reduceEq, Int.reduceLT, Int.reduceLE, Int.reduceNeg, Int.reduceAdd, Int.reduceSub, Int.reduceMul, Int.reduceDiv, Int.reduceMod, Nat.reduceLT, Nat.reduceLeDiff, Nat.reduceMul, Nat.reduceSub, Int.reduceToNat, go_sem, Nat.le_refl, cellsV, he, Try.results19]
        rw [← hr, findF, if_pos (List.any_eq_true.2 ⟨_, getD_mem hi, by rw [he]; exact decide_eq_true rfl⟩)]
        have : v.keys.findIdx (fun s => decide (s = key)) = i := by
          rw [List.findIdx_eq hi]
          refine ⟨by rw [← eg]; exact decide_eq_true he, fun j hj => ?_⟩
          have := List.any_eq_false.1 h2 (v.keys[j]) (by rw [List.mem_take_iff_getElem]; exact ⟨j, by omega, rfl⟩)
          simpa using this
        rw [this]
      · simp (implicitDefEqProofs := false) (disch := omega) only [go_sem, reduceCtorEq, Nat.reduceEqDiff, Nat.reduceBEq, ↓reduceIte, Nat.reduceGT, Nat.reduceAdd, Int.reduceEq, Int.reduceLT, Int.reduceLE, Int.reduceNeg, Int.reduceAdd, Int.reduceSub, Int.reduceMul, Int.reduceDiv, Int.reduceMod, Nat.reduceLT, Nat.reduceLeDiff, Nat.reduceMul, Nat.reduceSub, Int.reduceToNat, go_sem, Nat.le_refl, cellsV, Try.results19, encV_nil, encT_nil]
        refine ⟨⟨i + 1, hi, ?_⟩, by simp only; omega, ?_⟩
        · rw [take_snocG (d := ByteArray.empty) hi, List.any_append, h2, List.any_cons, decide_eq_false he]; rfl
        · refine ⟨?_, ?_, ?_, ?_, ?_, ?_, ?_⟩ <;> simp only [mem_cons_, mem_nil_, lkp, hold_eq, b_some, frz_self, frz1_self, frzL_self, frzO_self, frzO_box, frzO_iter, frzL_cons, frzL_nil, frz_agg, frz1_row, frz1_nil, frz1_val, frz1_sl, frz1_rr, frz1_ptr, frz1_ms, frz_val, frz_sl, frz_row, frz_ptr, frz_ms, frz_fp, frz_tup, frz_fn, PV.lt, PV.ltL, PObj.lt, decide_true, Bool.true_and, Bool.and_true, Bool.and_self, Nat.reduceLT, Nat.reduceLeDiff, Nat.reduceEqDiff, if_true, if_false, ↓reduceIte, and_true, true_and, Nat.zero_le, reduceCtorEq, eq_self, decide_eq_true_eq, Int.natCast_add, Int.natCast_one] <;> try first | omega | ((repeat' (first | exact And.intro rfl (by omega) | (refine And.intro ?_ ?_))) <;> first | rfl | omega | (congr 3; omega) | (congr 2; omega))
    · rw [List.take_of_length_le (by omega)] at h2
      simp (implicitDefEqProofs := false) (disch := omega) only [go_sem, reduceCtorEq, Nat.reduceEqDiff, Nat.reduceBEq, ↓reduceIte, Nat.reduceGT, Nat.reduceAdd, Int.reduceEq, Int.reduceLT, Int.reduceLE, Int.reduceNeg, Int.reduceAdd, Int.reduceSub, Int.reduceMul, Int.reduceDiv, Int.reduceMod, Nat.reduceLT, Nat.reduceLeDiff, Nat.reduceMul, Nat.reduceSub, Int.reduceToNat, go_sem, Nat.le_refl, cellsV, Try.results19, encV_nil, encT_nil]
      rw [← hr, findF, if_neg (by rw [h2]; decide)]
end Go.Proofs.Ytefhongghmimgaa
