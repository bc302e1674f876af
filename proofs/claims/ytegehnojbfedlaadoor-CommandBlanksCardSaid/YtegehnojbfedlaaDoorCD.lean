/-
  Chapter 25: the law Lines.
-/
import Derived.Test.YtegehnojbfedlaaDoorCC
open Go Go.Proofs Go.Pw Go.RowKit
namespace Go.Proofs.YtegehnojbfedlaaDoor
set_option maxRecDepth 4000
set_option linter.unusedVariables false
set_option linter.unusedSimpArgs false
def smB (l : List UInt8) : Bool := decide (l.length ≤ 60)
def smallC (c : Cm) : Bool := c.names.all smB && decide (c.word.length ≤ 60) && decide (c.names.length ≤ 5) && decide (c.nums.length ≤ 5) && decide (c.rest.length ≤ 500)
theorem all_getP {p : List UInt8 → Bool} {l : List (List UInt8)} (h : ∀ j, j < l.length → p (l.getD j []) = true) : l.all p = true := by
  rw [List.all_eq_true]
  intro x hx
  obtain ⟨j, hj, rfl⟩ := List.mem_iff_getElem.1 hx
  have := h j hj
  rw [List.getD_eq_getElem?_getD, List.getElem?_eq_getElem hj] at this
  exact this
theorem all_noP {p : List UInt8 → Bool} {l : List (List UInt8)} {j : Nat} (hj : j < l.length) (h : p (l.getD j []) = false) : l.all p = false := by
  apply Bool.eq_false_iff.2
  intro k
  rw [List.all_eq_true] at k
  have := k (l.getD j []) (by rw [List.getD_eq_getElem?_getD, List.getElem?_eq_getElem hj]; exact List.getElem_mem hj)
  rw [h] at this
  cases this
set_option maxHeartbeats 4000000 in
theorem small_ok (c : Cm) (h1 : c.names.length ≤ 9223372036854775807) (h2 : c.nums.length ≤ 9223372036854775807) : Ok Tryd.prog 10 [cmP c] (vB (smallC c)) := by
  obtain ⟨w, ns, ms, rt⟩ := c
  simp only at h1 h2
  unfold cmP smallC
  simp only
  obtain ⟨al, hal⟩ : ∃ al, ns.all smB = al := ⟨_, rfl⟩
  rw [hal]
  refine Ok.of_pwp (by kernel_rfl) Tryd.func10 rfl (by kernel_rfl) (by kernel_rfl) ?_
  simp (implicitDefEqProofs := false) (disch := omega) only [go_sem, reduceCtorEq, Nat.reduceEqDiff, Nat.reduceBEq, ↓reduceIte, Nat.reduceGT, Nat.reduceAdd, Int.reduceEq, Int.reduceLT, Int.reduceLE, Int.reduceNeg, Int.reduceAdd, Int.reduceSub, Int.reduceMul, Int.reduceDiv, Int.reduceMod, Nat.reduceLT, Nat.reduceLeDiff, Nat.reduceMul, Nat.reduceSub, Int.reduceToNat, go_sem, Nat.le_refl, Int.toNat_natCast, Int.toNat_zero, Int.toNat_one, str_eq, sz_bA, tl_bA, encI_len, ↓ix_enc, decide_true, Tryd.results10]
  refine p_loop (ι := { i : Nat // i ≤ ns.length ∧ ∀ j, j < i → smB (ns.getD j []) = true })
    (fun p => ⟨[(8, vI p.1), (7, vI ns.length), (6, .sl (encB ns)), (1, .ptr 0 0)], [(0, .box 25 [vS (bA w), .sl (encB ns), .sl (encI ms), vS (bA rt)])], [], 1, 0⟩) (fun p => ns.length - p.1) ⟨0, Nat.zero_le _, fun j h => by omega⟩ ?_ ?_
  · refine ⟨?_, ?_, ?_, ?_, ?_, ?_, ?_⟩ <;> simp only [mem_cons_, mem_nil_, lkp, hold_eq, b_some, frz_self, frz1_self, frzL_self, frzO_self, frzO_box, frzO_iter, frzL_cons, frzL_nil, frz_agg, frz1_row, frz1_nil, frz1_val, frz1_sl, frz1_rr, frz1_ptr, frz1_ms, frz_val, frz_sl, frz_row, frz_ptr, frz_ms, frz_fp, frz_tup, frz_fn, PV.lt, PV.ltL, PObj.lt, decide_true, Bool.true_and, Bool.and_true, Bool.and_self, Nat.reduceLT, Nat.reduceLeDiff, Nat.reduceEqDiff, if_true, if_false, ↓reduceIte, and_true, true_and, Nat.zero_le, reduceCtorEq, eq_self, decide_eq_true_eq, Int.natCast_zero] <;> try first | omega | ((repeat' (first | exact And.intro rfl (by omega) | (refine And.intro ?_ ?_))) <;> first | rfl | omega | (congr 3; omega) | (congr 2; omega))
  · rintro ⟨i, k1, k2⟩
    simp only
    by_cases hi : i < ns.length
    · by_cases hw : (ns.getD i []).length ≤ 60
      · simp (implicitDefEqProofs := false) (disch := omega) only [go_sem, reduceCtorEq, Nat.reduceEqDiff, Nat.reduceBEq, ↓reduceIte, Nat.reduceGT, Nat.reduceAdd, Int.reduceEq, Int.reduceLT, Int.reduceLE, Int.reduceNeg, Int.reduceAdd, Int.reduceSub, Int.reduceMul, Int.reduceDiv, Int.reduceMod, Nat.reduceLT, Nat.reduceLeDiff, Nat.reduceMul, Nat.reduceSub, Int.reduceToNat, go_sem, Nat.le_refl, Int.toNat_natCast, Int.toNat_zero, Int.toNat_one, str_eq, sz_bA, tl_bA, encI_len, ↓ix_enc, decide_true, Tryd.results10]
        refine ⟨⟨i + 1, by omega, fun j hj => by
          by_cases e : j = i
          · subst e; exact decide_eq_true hw
          · exact k2 j (by omega)⟩, by simp only; omega, ?_⟩
        refine ⟨?_, ?_, ?_, ?_, ?_, ?_, ?_⟩ <;> simp only [mem_cons_, mem_nil_, lkp, hold_eq, b_some, frz_self, frz1_self, frzL_self, frzO_self, frzO_box, frzO_iter, frzL_cons, frzL_nil, frz_agg, frz1_row, frz1_nil, frz1_val, frz1_sl, frz1_rr, frz1_ptr, frz1_ms, frz_val, frz_sl, frz_row, frz_ptr, frz_ms, frz_fp, frz_tup, frz_fn, PV.lt, PV.ltL, PObj.lt, decide_true, Bool.true_and, Bool.and_true, Bool.and_self, Nat.reduceLT, Nat.reduceLeDiff, Nat.reduceEqDiff, if_true, if_false, ↓reduceIte, and_true, true_and, Nat.zero_le, reduceCtorEq, eq_self, decide_eq_true_eq, Int.natCast_add, Int.natCast_one] <;> try first | omega | ((repeat' (first | exact And.intro rfl (by omega) | (refine And.intro ?_ ?_))) <;> first | rfl | omega | (congr 3; omega) | (congr 2; omega))
      · have e : al = false := by rw [← hal]; exact all_noP hi (decide_eq_false hw)
        rw [e]
        simp only [Bool.false_and]
        simp (implicitDefEqProofs := false) (disch := omega) only [go_sem, reduceCtorEq, Nat.reduceEqDiff, Nat.reduceBEq, ↓reduceIte, Nat.reduceGT, Nat.reduceAdd, Int.reduceEq, Int.reduceLT, Int.reduceLE, Int.reduceNeg, Int.reduceAdd, Int.reduceSub, Int.reduceMul, Int.reduceDiv, Int.reduceMod, Nat.reduceLT, Nat.reduceLeDiff, Nat.reduceMul, Nat.reduceSub, Int.reduceToNat, go_sem, Nat.le_refl, Int.toNat_natCast, Int.toNat_zero, Int.toNat_one, str_eq, sz_bA, tl_bA, encI_len, ↓ix_enc, decide_true, Tryd.results10]
    · have e : al = true := by rw [← hal]; exact all_getP (fun j hj => k2 j (by omega))
      rw [e]
      simp only [Bool.true_and]
      by_cases g1 : w.length ≤ 60
      · by_cases g2 : ns.length ≤ 5
        · by_cases g3 : ms.length ≤ 5
          · rw [decide_eq_true g1, decide_eq_true g2, decide_eq_true g3]
            simp only [Bool.true_and]
            by_cases g4 : rt.length ≤ 500
            · rw [decide_eq_true g4]
              simp (implicitDefEqProofs := false) (disch := omega) only [go_sem, reduceCtorEq, Nat.reduceEqDiff, Nat.reduceBEq, ↓reduceIte, Nat.reduceGT, Nat.reduceAdd, Int.reduceEq, Int.reduceLT, Int.reduceLE, Int.reduceNeg, Int.reduceAdd, Int.reduceSub, Int.reduceMul, Int.reduceDiv, Int.reduceMod, Nat.reduceLT, Nat.reduceLeDiff, Nat.reduceMul, Nat.reduceSub, Int.reduceToNat, go_sem, Nat.le_refl, Int.toNat_natCast, Int.toNat_zero, Int.toNat_one, str_eq, sz_bA, tl_bA, encI_len, ↓ix_enc, decide_true, Tryd.results10]
              fin1
            · rw [decide_eq_false g4]
              simp (implicitDefEqProofs := false) (disch := omega) only [go_sem, reduceCtorEq, Nat.reduceEqDiff, Nat.reduceBEq, ↓reduceIte, Nat.reduceGT, Nat.reduceAdd, Int.reduceEq, Int.reduceLT, Int.reduceLE, Int.reduceNeg, Int.reduceAdd, Int.reduceSub, Int.reduceMul, Int.reduceDiv, Int.reduceMod, Nat.reduceLT, Nat.reduceLeDiff, Nat.reduceMul, Nat.reduceSub, Int.reduceToNat, go_sem, Nat.le_refl, Int.toNat_natCast, Int.toNat_zero, Int.toNat_one, str_eq, sz_bA, tl_bA, encI_len, ↓ix_enc, decide_true, Tryd.results10]
              fin1
          · rw [decide_eq_true g1, decide_eq_true g2, decide_eq_false g3]
            simp only [Bool.true_and, Bool.false_and]
            simp (implicitDefEqProofs := false) (disch := omega) only [go_sem, reduceCtorEq, Nat.reduceEqDiff, Nat.reduceBEq, ↓reduceIte, Nat.reduceGT, Nat.reduceAdd, Int.reduceEq, Int.reduceLT, Int.reduceLE, Int.reduceNeg, Int.reduceAdd, Int.reduceSub, Int.reduceMul, Int.reduceDiv, Int.reduceMod, Nat.reduceLT, Nat.reduceLeDiff, Nat.reduceMul, Nat.reduceSub, Int.reduceToNat, go_sem, Nat.le_refl, Int.toNat_natCast, Int.toNat_zero, Int.toNat_one, str_eq, sz_bA, tl_bA, encI_len, ↓ix_enc, decide_true, Tryd.results10]
            try fin1
        · rw [decide_eq_true g1, decide_eq_false g2]
          simp only [Bool.true_and, Bool.false_and]
          simp (implicitDefEqProofs := false) (disch := omega) only [go_sem, reduceCtorEq, Nat.reduceEqDiff, Nat.reduceBEq, ↓reduceIte, Nat.reduceGT, Nat.reduceAdd, Int.reduceEq, Int.reduceLT, Int.reduceLE, Int.reduceNeg, Int.reduceAdd, Int.reduceSub, Int.reduceMul, Int.reduceDiv, Int.reduceMod, Nat.reduceLT, Nat.reduceLeDiff, Nat.reduceMul, Nat.reduceSub, Int.reduceToNat, go_sem, Nat.le_refl, Int.toNat_natCast, Int.toNat_zero, Int.toNat_one, str_eq, sz_bA, tl_bA, encI_len, ↓ix_enc, decide_true, Tryd.results10]
          try fin1
      · rw [decide_eq_false g1]
        simp only [Bool.false_and]
        simp (implicitDefEqProofs := false) (disch := omega) only [go_sem, reduceCtorEq, Nat.reduceEqDiff, Nat.reduceBEq, ↓reduceIte, Nat.reduceGT, Nat.reduceAdd, Int.reduceEq, Int.reduceLT, Int.reduceLE, Int.reduceNeg, Int.reduceAdd, Int.reduceSub, Int.reduceMul, Int.reduceDiv, Int.reduceMod, Nat.reduceLT, Nat.reduceLeDiff, Nat.reduceMul, Nat.reduceSub, Int.reduceToNat, go_sem, Nat.le_refl, Int.toNat_natCast, Int.toNat_zero, Int.toNat_one, str_eq, sz_bA, tl_bA, encI_len, ↓ix_enc, decide_true, Tryd.results10]
        try fin1
set_option maxHeartbeats 4000000 in
theorem real_ok (c : Cm) (h1 : c.names.length ≤ 1000000) (h2 : c.nums.length ≤ 1000000) : Ok Tryd.prog 23 [cmP c] (cmP c) := by
  obtain ⟨w, ns, ms, rt⟩ := c
  simp only at h1 h2
  unfold cmP
  simp only
  refine Ok.of_pwp (by kernel_rfl) Tryd.func23 rfl (by kernel_rfl) (by kernel_rfl) ?_
  cases ns with
  | nil =>
    rw [encB_nil]
    cases ms with
    | nil =>
      rw [encI_nil]
      simp (implicitDefEqProofs := false) (disch := omega) only [go_sem, reduceCtorEq, Nat.reduceEqDiff, Nat.reduceBEq, ↓reduceIte, Nat.reduceGT, Nat.reduceAdd, Int.reduceEq, Int.reduceLT, Int.reduceLE, Int.reduceNeg, Int.reduceAdd, Int.reduceSub, Int.reduceMul, Int.reduceDiv, Int.reduceMod, Nat.reduceLT, Nat.reduceLeDiff, Nat.reduceMul, Nat.reduceSub, Int.reduceToNat, go_sem, Nat.le_refl, Int.toNat_natCast, Int.toNat_zero, Int.toNat_one, str_eq, sz_bA, tl_bA, encI_len, ↓ix_enc, decide_true, Tryd.results23, Delta.val, sliceLike, fz_encI, encI_all', List.forall_mem_cons, List.length_nil, Nat.zero_add, List.nil_append]
    | cons m0 mr =>
      rw [show encI (m0 :: mr) = [vI m0] :: encI mr from rfl]
      simp only [List.length_cons] at h2
      simp (implicitDefEqProofs := false) (disch := omega) only [go_sem, reduceCtorEq, Nat.reduceEqDiff, Nat.reduceBEq, ↓reduceIte, Nat.reduceGT, Nat.reduceAdd, Int.reduceEq, Int.reduceLT, Int.reduceLE, Int.reduceNeg, Int.reduceAdd, Int.reduceSub, Int.reduceMul, Int.reduceDiv, Int.reduceMod, Nat.reduceLT, Nat.reduceLeDiff, Nat.reduceMul, Nat.reduceSub, Int.reduceToNat, go_sem, Nat.le_refl, Int.toNat_natCast, Int.toNat_zero, Int.toNat_one, str_eq, sz_bA, tl_bA, encI_len, ↓ix_enc, decide_true, Tryd.results23, Delta.val, sliceLike, fz_encI, encI_all', List.forall_mem_cons, List.length_nil, Nat.zero_add, List.nil_append]
  | cons n0 nr =>
    rw [encB_cons]
    simp only [List.length_cons] at h1
    cases ms with
    | nil =>
      rw [encI_nil]
      simp (implicitDefEqProofs := false) (disch := omega) only [go_sem, reduceCtorEq, Nat.reduceEqDiff, Nat.reduceBEq, ↓reduceIte, Nat.reduceGT, Nat.reduceAdd, Int.reduceEq, Int.reduceLT, Int.reduceLE, Int.reduceNeg, Int.reduceAdd, Int.reduceSub, Int.reduceMul, Int.reduceDiv, Int.reduceMod, Nat.reduceLT, Nat.reduceLeDiff, Nat.reduceMul, Nat.reduceSub, Int.reduceToNat, go_sem, Nat.le_refl, Int.toNat_natCast, Int.toNat_zero, Int.toNat_one, str_eq, sz_bA, tl_bA, encI_len, ↓ix_enc, decide_true, Tryd.results23, Delta.val, sliceLike, fz_encI, encI_all', List.forall_mem_cons, List.length_nil, Nat.zero_add, List.nil_append]
    | cons m0 mr =>
      rw [show encI (m0 :: mr) = [vI m0] :: encI mr from rfl]
      simp only [List.length_cons] at h2
      simp (implicitDefEqProofs := false) (disch := omega) only [go_sem, reduceCtorEq, Nat.reduceEqDiff, Nat.reduceBEq, ↓reduceIte, Nat.reduceGT, Nat.reduceAdd, Int.reduceEq, Int.reduceLT, Int.reduceLE, Int.reduceNeg, Int.reduceAdd, Int.reduceSub, Int.reduceMul, Int.reduceDiv, Int.reduceMod, Nat.reduceLT, Nat.reduceLeDiff, Nat.reduceMul, Nat.reduceSub, Int.reduceToNat, go_sem, Nat.le_refl, Int.toNat_natCast, Int.toNat_zero, Int.toNat_one, str_eq, sz_bA, tl_bA, encI_len, ↓ix_enc, decide_true, Tryd.results23, Delta.val, sliceLike, fz_encI, encI_all', List.forall_mem_cons, List.length_nil, Nat.zero_add, List.nil_append]
      omega
theorem smallC_iff (c : Cm) : smallC c = true ↔ (∀ s ∈ c.names, s.length ≤ 60) ∧ c.word.length ≤ 60 ∧ c.names.length ≤ 5 ∧ c.nums.length ≤ 5 ∧ c.rest.length ≤ 500 := by
  unfold smallC smB
  simp only [Bool.and_eq_true, decide_eq_true_eq, List.all_eq_true, and_assoc]
theorem jT_bound {K : Nat} : ∀ {l : List (List UInt8)}, (∀ x ∈ l, x.length ≤ K) → (jT l).length ≤ l.length * (K + 1)
  | [], _ => by rw [jT_nil]; exact Nat.zero_le _
  | x :: r, h => by
    have h1 := h x (by simp)
    have ih := jT_bound (l := r) (fun y hy => h y (by simp [hy]))
    rw [jT_cons, List.length_append, List.length_cons, List.length_cons, Nat.succ_mul]
    omega
theorem restC_cases (c : Cm) : restC c = [] ∨ restC c = [c.rest] := by
  unfold restC
  split
  · exact .inr rfl
  · exact .inl rfl
theorem line_len {c : Cm} (h : smallC c = true) (hf : ∀ n ∈ c.nums, fits n) : (lineC c).length ≤ 1000 := by
  obtain ⟨g1, g2, g3, g4, g5⟩ := (smallC_iff c).1 h
  have b1 := jT_bound (K := 60) g1
  have b2 := jT_bound (K := 21) (l := c.nums.map tOf) (fun x hx => by
    obtain ⟨n, hn, rfl⟩ := List.mem_map.1 hx
    exact tOf_len n (hf n hn))
  have b3 : (jT (restC c)).length ≤ 501 := by
    rcases restC_cases c with e | e
    · rw [e, jT_nil]; decide
    · rw [e, jT_cons, jT_nil, List.append_nil, List.length_cons]; omega
  unfold lineC
  rw [jT_app, jT_app, List.length_append, List.length_append, List.length_append]
  rw [List.length_map] at b2
  have m1 := Nat.mul_le_mul_right 61 g3
  have m2 := Nat.mul_le_mul_right 22 g4
  omega
theorem jT_cat (l : List (List UInt8)) : jT l = catG (l.map fun x => ([32], x)) := by
  induction l with
  | nil => rfl
  | cons x r ih => rw [jT_cons, ih, List.map_cons, catG_cons]; rfl
theorem blk_sp : blk [32] := fun b hb => by
  rw [List.mem_singleton] at hb
  subst hb; decide
theorem goodC_iff {c : Cm} (h : goodC c = true) : ∃ r, asks c.word = some (c.names.length, c.nums.length, r) ∧ (r = true ∨ c.rest = []) ∧ skp c.rest = c.rest ∧ ∀ x ∈ c.names, nameL x = true := by
  unfold goodC at h
  split at h
  · cases h
  · rename_i a b r ha
    simp only [Bool.and_eq_true, decide_eq_true_eq, Bool.or_eq_true, List.all_eq_true] at h
    obtain ⟨⟨⟨⟨h1, h2⟩, h3⟩, h4⟩, h5⟩ := h
    exact ⟨r, by rw [ha, h1, h2], h3, h4, h5⟩
theorem parse_line {c : Cm} (h : goodC c = true) (hf : ∀ n ∈ c.nums, fits n) (hl : (lineC c).length ≤ 20000) : parseC (lineC c) = .ok c := by
  obtain ⟨w, ns, ms, rt⟩ := c
  obtain ⟨r, ha, hr, hs, hn⟩ := goodC_iff h
  simp only at ha hr hs hn hf
  have e : lineC ⟨w, ns, ms, rt⟩ = [] ++ (w ++ (catG (ns.map fun x => ([32], x)) ++ (catG ((ms.map fun x => (([32] : List UInt8), x)).map fun x => (x.1, tOf x.2)) ++ jT (restC ⟨w, ns, ms, rt⟩)))) := by
    unfold lineC
    rw [jT_app, jT_app, jT_cat ns, jT_cat (ms.map tOf), List.map_map, List.map_map, List.append_assoc]
    rfl
  have hM : endB (jT (restC ⟨w, ns, ms, rt⟩)) ∧ skp (jT (restC ⟨w, ns, ms, rt⟩)) = rt := by
    unfold restC
    simp only
    rw [ha]
    cases r with
    | true =>
      refine ⟨.inr ⟨32, rt, by simp [jT_cons, jT_nil], by decide⟩, ?_⟩
      simp only [jT_cons, jT_nil, List.append_nil]
      have := skp_blk rt blk_sp
      rw [List.singleton_append] at this
      rw [this, hs]
    | false =>
      have : rt = [] := by rcases hr with h | h; cases h; exact h
      subst this
      exact ⟨.inl rfl, rfl⟩
  rw [e] at hl ⊢
  rw [parse_cat (r := r) (fun b hb => by cases hb) (by rw [List.length_map, List.length_map]; exact ha) (fun x hx => by
      obtain ⟨y, hy, rfl⟩ := List.mem_map.1 hx
      exact ⟨⟨by simp, blk_sp, name_nb (hn y hy)⟩, hn y hy⟩) (fun x hx => by
      obtain ⟨y, hy, rfl⟩ := List.mem_map.1 hx
      exact ⟨by simp, blk_sp, hf y hy⟩) hM.1 (by
      rcases hr with h | h
      · exact .inl h
      · rw [hM.2]; exact .inr h) hl, hM.2, List.map_map, List.map_map]
  simp [Function.comp_def]
theorem lines_ok (c : Cm) (h1 : c.names.length ≤ 9223372036854775807) (h2 : c.nums.length ≤ 9223372036854775807) (hf : ∀ n ∈ c.nums, fits n) : Ok Tryd.prog 8 [cmP c] (vB true) := by
  have c0 := awake_ok
  have c1 := small_ok c h1 h2
  have hcm : ∃ l, cmP c = .agg l := ⟨_, rfl⟩
  cases hs : smallC c with
  | false =>
    rw [hs] at c1
    unfold cmP at *
    refine Ok.of_pwp (by kernel_rfl) Tryd.func8 rfl (by kernel_rfl) (by kernel_rfl) ?_
    simp (implicitDefEqProofs := false) (disch := omega) only [go_sem, reduceCtorEq, Nat.reduceEqDiff, Nat.reduceBEq, ↓reduceIte, Nat.reduceGT, Nat.reduceAdd, Int.reduceEq, Int.reduceLT, Int.reduceLE, Int.reduceNeg, Int.reduceAdd, Int.reduceSub, Int.reduceMul, Int.reduceDiv, Int.reduceMod, Nat.reduceLT, Nat.reduceLeDiff, Nat.reduceMul, Nat.reduceSub, Int.reduceToNat, go_sem, Nat.le_refl, Int.toNat_natCast, Int.toNat_zero, Int.toNat_one, str_eq, sz_bA, tl_bA, encI_len, ↓ix_enc, decide_true, Tryd.results8, beq_self_eq_true, Bool.not_true, Bool.not_false]
    with_reducible refine CallOk.of c0 rfl ?_
    simp (implicitDefEqProofs := false) (disch := omega) only [go_sem, reduceCtorEq, Nat.reduceEqDiff, Nat.reduceBEq, ↓reduceIte, Nat.reduceGT, Nat.reduceAdd, Int.reduceEq, Int.reduceLT, Int.reduceLE, Int.reduceNeg, Int.reduceAdd, Int.reduceSub, Int.reduceMul, Int.reduceDiv, Int.reduceMod, Nat.reduceLT, Nat.reduceLeDiff, Nat.reduceMul, Nat.reduceSub, Int.reduceToNat, go_sem, Nat.le_refl, Int.toNat_natCast, Int.toNat_zero, Int.toNat_one, str_eq, sz_bA, tl_bA, encI_len, ↓ix_enc, decide_true, Tryd.results8, beq_self_eq_true, Bool.not_true, Bool.not_false]
    with_reducible refine CallOk.of c1 rfl ?_
    simp (implicitDefEqProofs := false) (disch := omega) only [go_sem, reduceCtorEq, Nat.reduceEqDiff, Nat.reduceBEq, ↓reduceIte, Nat.reduceGT, Nat.reduceAdd, Int.reduceEq, Int.reduceLT, Int.reduceLE, Int.reduceNeg, Int.reduceAdd, Int.reduceSub, Int.reduceMul, Int.reduceDiv, Int.reduceMod, Nat.reduceLT, Nat.reduceLeDiff, Nat.reduceMul, Nat.reduceSub, Int.reduceToNat, go_sem, Nat.le_refl, Int.toNat_natCast, Int.toNat_zero, Int.toNat_one, str_eq, sz_bA, tl_bA, encI_len, ↓ix_enc, decide_true, Tryd.results8, beq_self_eq_true, Bool.not_true, Bool.not_false]
    with_reducible refine CallOk.of c0 rfl ?_
    simp (implicitDefEqProofs := false) (disch := omega) only [go_sem, reduceCtorEq, Nat.reduceEqDiff, Nat.reduceBEq, ↓reduceIte, Nat.reduceGT, Nat.reduceAdd, Int.reduceEq, Int.reduceLT, Int.reduceLE, Int.reduceNeg, Int.reduceAdd, Int.reduceSub, Int.reduceMul, Int.reduceDiv, Int.reduceMod, Nat.reduceLT, Nat.reduceLeDiff, Nat.reduceMul, Nat.reduceSub, Int.reduceToNat, go_sem, Nat.le_refl, Int.toNat_natCast, Int.toNat_zero, Int.toNat_one, str_eq, sz_bA, tl_bA, encI_len, ↓ix_enc, decide_true, Tryd.results8, beq_self_eq_true, Bool.not_true, Bool.not_false]
  | true =>
    rw [hs] at c1
    obtain ⟨g1, g2, g3, g4, g5⟩ := (smallC_iff c).1 hs
    have hfw : fewB c.names := fun s h => by have := g1 s h; omega
    have c2 := real_ok c (by omega) (by omega)
    have c3 := good_ok c (by omega) (by omega) hfw
    have c4 := rgood_ok c (by omega) (by omega) (by omega) hfw
    cases hg : goodC c with
    | false =>
      rw [hg] at c3 c4
      unfold cmP at *
      refine Ok.of_pwp (by kernel_rfl) Tryd.func8 rfl (by kernel_rfl) (by kernel_rfl) ?_
      simp (implicitDefEqProofs := false) (disch := omega) only [go_sem, reduceCtorEq, Nat.reduceEqDiff, Nat.reduceBEq, ↓reduceIte, Nat.reduceGT, Nat.reduceAdd, Int.reduceEq, Int.reduceLT, Int.reduceLE, Int.reduceNeg, Int.reduceAdd, Int.reduceSub, Int.reduceMul, Int.reduceDiv, Int.reduceMod, Nat.reduceLT, Nat.reduceLeDiff, Nat.reduceMul, Nat.reduceSub, Int.reduceToNat, go_sem, Nat.le_refl, Int.toNat_natCast, Int.toNat_zero, Int.toNat_one, str_eq, sz_bA, tl_bA, encI_len, ↓ix_enc, decide_true, Tryd.results8, beq_self_eq_true, Bool.not_true, Bool.not_false]
      with_reducible refine CallOk.of c0 rfl ?_
      simp (implicitDefEqProofs := false) (disch := omega) only [go_sem, reduceCtorEq, Nat.reduceEqDiff, Nat.reduceBEq, ↓reduceIte, Nat.reduceGT, Nat.reduceAdd, Int.reduceEq, Int.reduceLT, Int.reduceLE, Int.reduceNeg, Int.reduceAdd, Int.reduceSub, Int.reduceMul, Int.reduceDiv, Int.reduceMod, Nat.reduceLT, Nat.reduceLeDiff, Nat.reduceMul, Nat.reduceSub, Int.reduceToNat, go_sem, Nat.le_refl, Int.toNat_natCast, Int.toNat_zero, Int.toNat_one, str_eq, sz_bA, tl_bA, encI_len, ↓ix_enc, decide_true, Tryd.results8, beq_self_eq_true, Bool.not_true, Bool.not_false]
      with_reducible refine CallOk.of c1 rfl ?_
      simp (implicitDefEqProofs := false) (disch := omega) only [go_sem, reduceCtorEq, Nat.reduceEqDiff, Nat.reduceBEq, ↓reduceIte, Nat.reduceGT, Nat.reduceAdd, Int.reduceEq, Int.reduceLT, Int.reduceLE, Int.reduceNeg, Int.reduceAdd, Int.reduceSub, Int.reduceMul, Int.reduceDiv, Int.reduceMod, Nat.reduceLT, Nat.reduceLeDiff, Nat.reduceMul, Nat.reduceSub, Int.reduceToNat, go_sem, Nat.le_refl, Int.toNat_natCast, Int.toNat_zero, Int.toNat_one, str_eq, sz_bA, tl_bA, encI_len, ↓ix_enc, decide_true, Tryd.results8, beq_self_eq_true, Bool.not_true, Bool.not_false]
      with_reducible refine CallOk.of c2 rfl ?_
      simp (implicitDefEqProofs := false) (disch := omega) only [go_sem, reduceCtorEq, Nat.reduceEqDiff, Nat.reduceBEq, ↓reduceIte, Nat.reduceGT, Nat.reduceAdd, Int.reduceEq, Int.reduceLT, Int.reduceLE, Int.reduceNeg, Int.reduceAdd, Int.reduceSub, Int.reduceMul, Int.reduceDiv, Int.reduceMod, Nat.reduceLT, Nat.reduceLeDiff, Nat.reduceMul, Nat.reduceSub, Int.reduceToNat, go_sem, Nat.le_refl, Int.toNat_natCast, Int.toNat_zero, Int.toNat_one, str_eq, sz_bA, tl_bA, encI_len, ↓ix_enc, decide_true, Tryd.results8, beq_self_eq_true, Bool.not_true, Bool.not_false]
      with_reducible refine CallOk.of c3 rfl ?_
      simp (implicitDefEqProofs := false) (disch := omega) only [go_sem, reduceCtorEq, Nat.reduceEqDiff, Nat.reduceBEq, ↓reduceIte, Nat.reduceGT, Nat.reduceAdd, Int.reduceEq, Int.reduceLT, Int.reduceLE, Int.reduceNeg, Int.reduceAdd, Int.reduceSub, Int.reduceMul, Int.reduceDiv, Int.reduceMod, Nat.reduceLT, Nat.reduceLeDiff, Nat.reduceMul, Nat.reduceSub, Int.reduceToNat, go_sem, Nat.le_refl, Int.toNat_natCast, Int.toNat_zero, Int.toNat_one, str_eq, sz_bA, tl_bA, encI_len, ↓ix_enc, decide_true, Tryd.results8, beq_self_eq_true, Bool.not_true, Bool.not_false]
      with_reducible refine CallOk.of c4 rfl ?_
      simp (implicitDefEqProofs := false) (disch := omega) only [go_sem, reduceCtorEq, Nat.reduceEqDiff, Nat.reduceBEq, ↓reduceIte, Nat.reduceGT, Nat.reduceAdd, Int.reduceEq, Int.reduceLT, Int.reduceLE, Int.reduceNeg, Int.reduceAdd, Int.reduceSub, Int.reduceMul, Int.reduceDiv, Int.reduceMod, Nat.reduceLT, Nat.reduceLeDiff, Nat.reduceMul, Nat.reduceSub, Int.reduceToNat, go_sem, Nat.le_refl, Int.toNat_natCast, Int.toNat_zero, Int.toNat_one, str_eq, sz_bA, tl_bA, encI_len, ↓ix_enc, decide_true, Tryd.results8, beq_self_eq_true, Bool.not_true, Bool.not_false]
      with_reducible refine CallOk.of c4 rfl ?_
      simp (implicitDefEqProofs := false) (disch := omega) only [go_sem, reduceCtorEq, Nat.reduceEqDiff, Nat.reduceBEq, ↓reduceIte, Nat.reduceGT, Nat.reduceAdd, Int.reduceEq, Int.reduceLT, Int.reduceLE, Int.reduceNeg, Int.reduceAdd, Int.reduceSub, Int.reduceMul, Int.reduceDiv, Int.reduceMod, Nat.reduceLT, Nat.reduceLeDiff, Nat.reduceMul, Nat.reduceSub, Int.reduceToNat, go_sem, Nat.le_refl, Int.toNat_natCast, Int.toNat_zero, Int.toNat_one, str_eq, sz_bA, tl_bA, encI_len, ↓ix_enc, decide_true, Tryd.results8, beq_self_eq_true, Bool.not_true, Bool.not_false]
    | true =>
      rw [hg] at c3 c4
      have hl := line_len hs hf
      have c5 := line_ok c (by omega) (by omega) hf (by omega)
      have c6 := rline_ok c (by omega) (by omega) hf (by omega)
      have c7 := parse_cmd (lineC c) (by omega)
      rw [parse_line hg hf (by omega)] at c7
      have c8 := conv_ok c
      have c9 := same_self c (by omega) (by omega)
      unfold resP at c7
      unfold cmP at *
      refine Ok.of_pwp (by kernel_rfl) Tryd.func8 rfl (by kernel_rfl) (by kernel_rfl) ?_
      simp (implicitDefEqProofs := false) (disch := omega) only [go_sem, reduceCtorEq, Nat.reduceEqDiff, Nat.reduceBEq, ↓reduceIte, Nat.reduceGT, Nat.reduceAdd, Int.reduceEq, Int.reduceLT, Int.reduceLE, Int.reduceNeg, Int.reduceAdd, Int.reduceSub, Int.reduceMul, Int.reduceDiv, Int.reduceMod, Nat.reduceLT, Nat.reduceLeDiff, Nat.reduceMul, Nat.reduceSub, Int.reduceToNat, go_sem, Nat.le_refl, Int.toNat_natCast, Int.toNat_zero, Int.toNat_one, str_eq, sz_bA, tl_bA, encI_len, ↓ix_enc, decide_true, Tryd.results8, beq_self_eq_true, Bool.not_true, Bool.not_false]
      with_reducible refine CallOk.of c0 rfl ?_
      simp (implicitDefEqProofs := false) (disch := omega) only [go_sem, reduceCtorEq, Nat.reduceEqDiff, Nat.reduceBEq, ↓reduceIte, Nat.reduceGT, Nat.reduceAdd, Int.reduceEq, Int.reduceLT, Int.reduceLE, Int.reduceNeg, Int.reduceAdd, Int.reduceSub, Int.reduceMul, Int.reduceDiv, Int.reduceMod, Nat.reduceLT, Nat.reduceLeDiff, Nat.reduceMul, Nat.reduceSub, Int.reduceToNat, go_sem, Nat.le_refl, Int.toNat_natCast, Int.toNat_zero, Int.toNat_one, str_eq, sz_bA, tl_bA, encI_len, ↓ix_enc, decide_true, Tryd.results8, beq_self_eq_true, Bool.not_true, Bool.not_false]
      with_reducible refine CallOk.of c1 rfl ?_
      simp (implicitDefEqProofs := false) (disch := omega) only [go_sem, reduceCtorEq, Nat.reduceEqDiff, Nat.reduceBEq, ↓reduceIte, Nat.reduceGT, Nat.reduceAdd, Int.reduceEq, Int.reduceLT, Int.reduceLE, Int.reduceNeg, Int.reduceAdd, Int.reduceSub, Int.reduceMul, Int.reduceDiv, Int.reduceMod, Nat.reduceLT, Nat.reduceLeDiff, Nat.reduceMul, Nat.reduceSub, Int.reduceToNat, go_sem, Nat.le_refl, Int.toNat_natCast, Int.toNat_zero, Int.toNat_one, str_eq, sz_bA, tl_bA, encI_len, ↓ix_enc, decide_true, Tryd.results8, beq_self_eq_true, Bool.not_true, Bool.not_false]
      with_reducible refine CallOk.of c2 rfl ?_
      simp (implicitDefEqProofs := false) (disch := omega) only [go_sem, reduceCtorEq, Nat.reduceEqDiff, Nat.reduceBEq, ↓reduceIte, Nat.reduceGT, Nat.reduceAdd, Int.reduceEq, Int.reduceLT, Int.reduceLE, Int.reduceNeg, Int.reduceAdd, Int.reduceSub, Int.reduceMul, Int.reduceDiv, Int.reduceMod, Nat.reduceLT, Nat.reduceLeDiff, Nat.reduceMul, Nat.reduceSub, Int.reduceToNat, go_sem, Nat.le_refl, Int.toNat_natCast, Int.toNat_zero, Int.toNat_one, str_eq, sz_bA, tl_bA, encI_len, ↓ix_enc, decide_true, Tryd.results8, beq_self_eq_true, Bool.not_true, Bool.not_false]
      with_reducible refine CallOk.of c3 rfl ?_
      simp (implicitDefEqProofs := false) (disch := omega) only [go_sem, reduceCtorEq, Nat.reduceEqDiff, Nat.reduceBEq, ↓reduceIte, Nat.reduceGT, Nat.reduceAdd, Int.reduceEq, Int.reduceLT, Int.reduceLE, Int.reduceNeg, Int.reduceAdd, Int.reduceSub, Int.reduceMul, Int.reduceDiv, Int.reduceMod, Nat.reduceLT, Nat.reduceLeDiff, Nat.reduceMul, Nat.reduceSub, Int.reduceToNat, go_sem, Nat.le_refl, Int.toNat_natCast, Int.toNat_zero, Int.toNat_one, str_eq, sz_bA, tl_bA, encI_len, ↓ix_enc, decide_true, Tryd.results8, beq_self_eq_true, Bool.not_true, Bool.not_false]
      with_reducible refine CallOk.of c4 rfl ?_
      simp (implicitDefEqProofs := false) (disch := omega) only [go_sem, reduceCtorEq, Nat.reduceEqDiff, Nat.reduceBEq, ↓reduceIte, Nat.reduceGT, Nat.reduceAdd, Int.reduceEq, Int.reduceLT, Int.reduceLE, Int.reduceNeg, Int.reduceAdd, Int.reduceSub, Int.reduceMul, Int.reduceDiv, Int.reduceMod, Nat.reduceLT, Nat.reduceLeDiff, Nat.reduceMul, Nat.reduceSub, Int.reduceToNat, go_sem, Nat.le_refl, Int.toNat_natCast, Int.toNat_zero, Int.toNat_one, str_eq, sz_bA, tl_bA, encI_len, ↓ix_enc, decide_true, Tryd.results8, beq_self_eq_true, Bool.not_true, Bool.not_false]
      with_reducible refine CallOk.of c4 rfl ?_
      simp (implicitDefEqProofs := false) (disch := omega) only [go_sem, reduceCtorEq, Nat.reduceEqDiff, Nat.reduceBEq, ↓reduceIte, Nat.reduceGT, Nat.reduceAdd, Int.reduceEq, Int.reduceLT, Int.reduceLE, Int.reduceNeg, Int.reduceAdd, Int.reduceSub, Int.reduceMul, Int.reduceDiv, Int.reduceMod, Nat.reduceLT, Nat.reduceLeDiff, Nat.reduceMul, Nat.reduceSub, Int.reduceToNat, go_sem, Nat.le_refl, Int.toNat_natCast, Int.toNat_zero, Int.toNat_one, str_eq, sz_bA, tl_bA, encI_len, ↓ix_enc, decide_true, Tryd.results8, beq_self_eq_true, Bool.not_true, Bool.not_false]
      with_reducible refine CallOk.of c5 rfl ?_
      simp (implicitDefEqProofs := false) (disch := omega) only [go_sem, reduceCtorEq, Nat.reduceEqDiff, Nat.reduceBEq, ↓reduceIte, Nat.reduceGT, Nat.reduceAdd, Int.reduceEq, Int.reduceLT, Int.reduceLE, Int.reduceNeg, Int.reduceAdd, Int.reduceSub, Int.reduceMul, Int.reduceDiv, Int.reduceMod, Nat.reduceLT, Nat.reduceLeDiff, Nat.reduceMul, Nat.reduceSub, Int.reduceToNat, go_sem, Nat.le_refl, Int.toNat_natCast, Int.toNat_zero, Int.toNat_one, str_eq, sz_bA, tl_bA, encI_len, ↓ix_enc, decide_true, Tryd.results8, beq_self_eq_true, Bool.not_true, Bool.not_false]
      with_reducible refine CallOk.of c7 rfl ?_
      simp (implicitDefEqProofs := false) (disch := omega) only [go_sem, reduceCtorEq, Nat.reduceEqDiff, Nat.reduceBEq, ↓reduceIte, Nat.reduceGT, Nat.reduceAdd, Int.reduceEq, Int.reduceLT, Int.reduceLE, Int.reduceNeg, Int.reduceAdd, Int.reduceSub, Int.reduceMul, Int.reduceDiv, Int.reduceMod, Nat.reduceLT, Nat.reduceLeDiff, Nat.reduceMul, Nat.reduceSub, Int.reduceToNat, go_sem, Nat.le_refl, Int.toNat_natCast, Int.toNat_zero, Int.toNat_one, str_eq, sz_bA, tl_bA, encI_len, ↓ix_enc, decide_true, Tryd.results8, beq_self_eq_true, Bool.not_true, Bool.not_false]
      with_reducible refine CallOk.of c6 rfl ?_
      simp (implicitDefEqProofs := false) (disch := omega) only [go_sem, reduceCtorEq, Nat.reduceEqDiff, Nat.reduceBEq, ↓reduceIte, Nat.reduceGT, Nat.reduceAdd, Int.reduceEq, Int.reduceLT, Int.reduceLE, Int.reduceNeg, Int.reduceAdd, Int.reduceSub, Int.reduceMul, Int.reduceDiv, Int.reduceMod, Nat.reduceLT, Nat.reduceLeDiff, Nat.reduceMul, Nat.reduceSub, Int.reduceToNat, go_sem, Nat.le_refl, Int.toNat_natCast, Int.toNat_zero, Int.toNat_one, str_eq, sz_bA, tl_bA, encI_len, ↓ix_enc, decide_true, Tryd.results8, beq_self_eq_true, Bool.not_true, Bool.not_false]
      with_reducible refine CallOk.of c8 rfl ?_
      simp (implicitDefEqProofs := false) (disch := omega) only [go_sem, reduceCtorEq, Nat.reduceEqDiff, Nat.reduceBEq, ↓reduceIte, Nat.reduceGT, Nat.reduceAdd, Int.reduceEq, Int.reduceLT, Int.reduceLE, Int.reduceNeg, Int.reduceAdd, Int.reduceSub, Int.reduceMul, Int.reduceDiv, Int.reduceMod, Nat.reduceLT, Nat.reduceLeDiff, Nat.reduceMul, Nat.reduceSub, Int.reduceToNat, go_sem, Nat.le_refl, Int.toNat_natCast, Int.toNat_zero, Int.toNat_one, str_eq, sz_bA, tl_bA, encI_len, ↓ix_enc, decide_true, Tryd.results8, beq_self_eq_true, Bool.not_true, Bool.not_false]
      with_reducible refine CallOk.of c9 rfl ?_
      simp (implicitDefEqProofs := false) (disch := omega) only [go_sem, reduceCtorEq, Nat.reduceEqDiff, Nat.reduceBEq, ↓reduceIte, Nat.reduceGT, Nat.reduceAdd, Int.reduceEq, Int.reduceLT, Int.reduceLE, Int.reduceNeg, Int.reduceAdd, Int.reduceSub, Int.reduceMul, Int.reduceDiv, Int.reduceMod, Nat.reduceLT, Nat.reduceLeDiff, Nat.reduceMul, Nat.reduceSub, Int.reduceToNat, go_sem, Nat.le_refl, Int.toNat_natCast, Int.toNat_zero, Int.toNat_one, str_eq, sz_bA, tl_bA, encI_len, ↓ix_enc, decide_true, Tryd.results8, beq_self_eq_true, Bool.not_true, Bool.not_false]
end Go.Proofs.YtegehnojbfedlaaDoor
