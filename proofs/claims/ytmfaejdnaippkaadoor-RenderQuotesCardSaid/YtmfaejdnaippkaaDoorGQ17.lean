/-
  Contracts and plain laws on the way to the statement; each says its own conditions.
-/
import Derived.Test.YtmfaejdnaippkaaDoorGQ14
import Derived.Test.YtmfaejdnaippkaaDoorGQ15
import Derived.Test.YtmfaejdnaippkaaDoorGQ16
import Derived.Test.YtmfaejdnaippkaaDoorGQ8
section
/-
  The law of makers.
-/
open Go Go.Proofs Go.Pw Go.RowKit
namespace Go.Proofs.YtmfaejdnaippkaaDoor
set_option maxRecDepth 4000
set_option linter.unusedVariables false
set_option linter.unusedSimpArgs false
theorem vtext_ok (s : ByteArray) : Ok Tryd.prog 10 [vS s] (.agg (cellsV (.mk 3 false 0 s [] []))) := by
  refine Ok.of_pwp (by kernel_rfl) Tryd.func10 rfl (by kernel_rfl) (by kernel_rfl) ?_
  simp (implicitDefEqProofs := false) (disch := omega) only [go_sem, simprocAttr, go_sem, Nat.le_refl, cellsV, encV_nil, encT_nil, Tryd.results10]
theorem list_ok (l : List V) (hl : l.length ≤ 1000000) : Ok Tryd.prog 16 [.sl (encV l)] (.agg (cellsV (.mk 4 false 0 ByteArray.empty l []))) := by
  have c := cloneV_ok l hl
  refine Ok.of_pwp (by kernel_rfl) Tryd.func16 rfl (by kernel_rfl) (by kernel_rfl) ?_
  simp (implicitDefEqProofs := false) (disch := omega) only [go_sem, simprocAttr, go_sem, Nat.le_refl, cellsV, encV_nil, encT_nil, Tryd.results16]
  with_reducible refine CallOk.of c rfl ?_
  simp (implicitDefEqProofs := false) (disch := omega) only [go_sem, simprocAttr, go_sem, Nat.le_refl, cellsV, encV_nil, encT_nil, Tryd.results16]
end Go.Proofs.YtmfaejdnaippkaaDoor

end
section
/-
  Chapter 7: the fixed example; the law Quotes.
-/
open Go Go.Proofs Go.Pw Go.RowKit
namespace Go.Proofs.YtmfaejdnaippkaaDoor
set_option maxRecDepth 4000
set_option linter.unusedVariables false
set_option linter.unusedSimpArgs false
abbrev nV_ (n : Int) : V := .mk 2 false n ByteArray.empty [] []
abbrev lst_ : V := .mk 4 false 0 ByteArray.empty [nV_ 1] []
abbrev obj_ : V := .mk 5 false 0 ByteArray.empty [lst_, vZero] [⟨#[97]⟩, ⟨#[98]⟩]
theorem sOf_1 : sOf 1 = ⟨#[49]⟩ := by
  rw [sOf_pos (by decide), decD_pad, show (1 : Int).natAbs = 1 from rfl, Lib.nDigits_small (by decide)]
  rfl
theorem ex_text : tV obj_ = ⟨#[123, 34, 97, 34, 58, 91, 49, 93, 44, 34, 98, 34, 58, 110, 117, 108, 108, 125]⟩ := by
  have h1 : txV gT (bC 58) 2 (nV_ 1) = ⟨#[49]⟩ := by
    rw [txV_eq]
    show sOf 1 = _
    exact sOf_1
  have h2 : txV gT (bC 58) 1 lst_ = ⟨#[91, 49, 93]⟩ := by
    rw [txV_eq]
    show nodeT ByteArray.empty ByteArray.empty (bC 58) 4 false 0 ByteArray.empty [] [txV gT (bC 58) 2 (nV_ 1)] = _
    rw [h1]
    decide +kernel
  have h3 : txV gT (bC 58) 1 vZero = ⟨#[110, 117, 108, 108]⟩ := by
    rw [txV_eq]
    rfl
  rw [tV, txV_eq]
  show nodeT ByteArray.empty ByteArray.empty (bC 58) 5 false 0 ByteArray.empty [⟨#[97]⟩, ⟨#[98]⟩] [txV gT (bC 58) 1 lst_, txV gT (bC 58) 1 vZero] = _
  rw [h2, h3]
  decide +kernel
theorem ex_obj : objF [⟨#[97]⟩, ⟨#[98]⟩] [lst_, vZero] = .tup [.agg (cellsV obj_), vI 0] := by
  unfold objF
  rw [if_neg (by decide), if_neg (by decide +kernel)]
  have : putAll [] [] [⟨#[97]⟩, ⟨#[98]⟩] [lst_, vZero] = some ([⟨#[97]⟩, ⟨#[98]⟩], [lst_, vZero]) := by
    have p1 : posT [] ⟨#[97]⟩ = 0 := by decide +kernel
    have p2 : posT [⟨#[97]⟩] ⟨#[98]⟩ = 1 := by decide +kernel
    rw [putAll, if_neg (by decide +kernel), p1]
    show putAll [⟨#[97]⟩] [lst_] [⟨#[98]⟩] [vZero] = _
    rw [putAll, if_neg (by decide +kernel), p2, putAll.eq_2 _ _ _ _ (fun _ _ _ _ h => by cases h)]
    rfl
  rw [this, objR]
set_option maxHeartbeats 4000000 in
theorem awake7_ok : Ok Tryd.prog 5 [] (vB true) := by
  have c1 := num_ok 1
  have c3 := list_ok [nV_ 1] (by decide)
  have c4 := object_ok [⟨#[97]⟩, ⟨#[98]⟩] [lst_, vZero] (by intro s h; simp at h; rcases h with rfl | rfl <;> decide) (by decide) (by decide)
  rw [ex_obj] at c4
  have c5 := rtxt_ok obj_ (by decide +kernel) (by decide +kernel)
  rw [ex_text] at c5
  simp only [vZero, encT, encV_cons, encV_nil, encT_nil, List.map_cons, List.map_nil, V.kind_mk, V.b_mk, V.n_mk, V.s_mk, V.items_mk, V.keys_mk, cellsV] at c1 c3 c4 c5
  refine Ok.of_pwp (by kernel_rfl) Tryd.func5 rfl (by kernel_rfl) (by kernel_rfl) ?_
  simp (implicitDefEqProofs := false) (disch := omega) only [go_sem, simprocAttr, go_sem, Nat.le_refl, Int.toNat_natCast, Int.toNat_zero, Int.toNat_one, str_eq, cellsV, decide_true, Bool.not_true, Bool.not_false, beq_self_eq_true, encV_nil, encT_nil, List.getD_cons_zero, Tryd.results5]
  with_reducible refine CallOk.of c1 rfl ?_
  simp (implicitDefEqProofs := false) (disch := omega) only [go_sem, simprocAttr, go_sem, Nat.le_refl, Int.toNat_natCast, Int.toNat_zero, Int.toNat_one, str_eq, cellsV, decide_true, Bool.not_true, Bool.not_false, beq_self_eq_true, encV_nil, encT_nil, List.getD_cons_zero, Tryd.results5]
  with_reducible refine CallOk.of c3 rfl ?_
  simp (implicitDefEqProofs := false) (disch := omega) only [go_sem, simprocAttr, go_sem, Nat.le_refl, Int.toNat_natCast, Int.toNat_zero, Int.toNat_one, str_eq, cellsV, decide_true, Bool.not_true, Bool.not_false, beq_self_eq_true, encV_nil, encT_nil, List.getD_cons_zero, Tryd.results5]
  with_reducible refine CallOk.of c4 rfl ?_
  simp (implicitDefEqProofs := false) (disch := omega) only [go_sem, simprocAttr, go_sem, Nat.le_refl, Int.toNat_natCast, Int.toNat_zero, Int.toNat_one, str_eq, cellsV, decide_true, Bool.not_true, Bool.not_false, beq_self_eq_true, encV_nil, encT_nil, List.getD_cons_zero, Tryd.results5]
  with_reducible refine CallOk.of c5 rfl ?_
  simp (implicitDefEqProofs := false) (disch := omega) only [go_sem, simprocAttr, go_sem, Nat.le_refl, Int.toNat_natCast, Int.toNat_zero, Int.toNat_one, str_eq, cellsV, decide_true, Bool.not_true, Bool.not_false, beq_self_eq_true, encV_nil, encT_nil, List.getD_cons_zero, Tryd.results5]
theorem tV_str (s : ByteArray) : tV (.mk 3 false 0 s [] []) = qF s := by
  rw [tV, txV_eq]
  rfl
set_option maxHeartbeats 4000000 in
theorem quotes_ok (s t : ByteArray) (hs : s.size ≤ 140737488351232) (ht : t.size ≤ 140737488351232) : Ok Tryd.prog 3 [vS s, vS t] (vB true) := by
  refine Ok.of_pwp (by kernel_rfl) Tryd.func3 rfl (by kernel_rfl) (by kernel_rfl) ?_
  simp (implicitDefEqProofs := false) (disch := omega) only [go_sem, simprocAttr, go_sem, Nat.le_refl, Int.toNat_natCast, Int.toNat_zero, Int.toNat_one, str_eq, cellsV, decide_true, Bool.not_true, Bool.not_false, beq_self_eq_true, encV_nil, encT_nil, Tryd.results3]
  with_reducible refine CallOk.of awake7_ok rfl ?_
  by_cases h1 : s.size ≤ 200
  rotate_left
  · simp (implicitDefEqProofs := false) (disch := omega) only [go_sem, simprocAttr, go_sem, Nat.le_refl, Int.toNat_natCast, Int.toNat_zero, Int.toNat_one, str_eq, cellsV, decide_true, Bool.not_true, Bool.not_false, beq_self_eq_true, encV_nil, encT_nil, Tryd.results3]
    with_reducible refine CallOk.of awake7_ok rfl ?_
    simp (implicitDefEqProofs := false) (disch := omega) only [go_sem, simprocAttr, go_sem, Nat.le_refl, Int.toNat_natCast, Int.toNat_zero, Int.toNat_one, str_eq, cellsV, decide_true, Bool.not_true, Bool.not_false, beq_self_eq_true, encV_nil, encT_nil, Tryd.results3]
  by_cases h2 : t.size ≤ 200
  rotate_left
  · simp (implicitDefEqProofs := false) (disch := omega) only [go_sem, simprocAttr, go_sem, Nat.le_refl, Int.toNat_natCast, Int.toNat_zero, Int.toNat_one, str_eq, cellsV, decide_true, Bool.not_true, Bool.not_false, beq_self_eq_true, encV_nil, encT_nil, Tryd.results3]
    with_reducible refine CallOk.of awake7_ok rfl ?_
    simp (implicitDefEqProofs := false) (disch := omega) only [go_sem, simprocAttr, go_sem, Nat.le_refl, Int.toNat_natCast, Int.toNat_zero, Int.toNat_one, str_eq, cellsV, decide_true, Bool.not_true, Bool.not_false, beq_self_eq_true, encV_nil, encT_nil, Tryd.results3]
  have v1 := rvalid_ok s (by omega)
  have v2 := rvalid_ok t (by omega)
  simp (implicitDefEqProofs := false) (disch := omega) only [go_sem, simprocAttr, go_sem, Nat.le_refl, Int.toNat_natCast, Int.toNat_zero, Int.toNat_one, str_eq, cellsV, decide_true, Bool.not_true, Bool.not_false, beq_self_eq_true, encV_nil, encT_nil, Tryd.results3]
  with_reducible refine CallOk.of v1 rfl ?_
  generalize decide ((scan s 0).2 = s.size) = b1 at *
  cases b1 with
  | false =>
    simp (implicitDefEqProofs := false) (disch := omega) only [go_sem, simprocAttr, go_sem, Nat.le_refl, Int.toNat_natCast, Int.toNat_zero, Int.toNat_one, str_eq, cellsV, decide_true, Bool.not_true, Bool.not_false, beq_self_eq_true, encV_nil, encT_nil, Tryd.results3]
    with_reducible refine CallOk.of awake7_ok rfl ?_
    simp (implicitDefEqProofs := false) (disch := omega) only [go_sem, simprocAttr, go_sem, Nat.le_refl, Int.toNat_natCast, Int.toNat_zero, Int.toNat_one, str_eq, cellsV, decide_true, Bool.not_true, Bool.not_false, beq_self_eq_true, encV_nil, encT_nil, Tryd.results3]
  | true =>
    simp (implicitDefEqProofs := false) (disch := omega) only [go_sem, simprocAttr, go_sem, Nat.le_refl, Int.toNat_natCast, Int.toNat_zero, Int.toNat_one, str_eq, cellsV, decide_true, Bool.not_true, Bool.not_false, beq_self_eq_true, encV_nil, encT_nil, Tryd.results3]
    with_reducible refine CallOk.of v2 rfl ?_
    generalize decide ((scan t 0).2 = t.size) = b2 at *
    cases b2 with
    | false =>
      simp (implicitDefEqProofs := false) (disch := omega) only [go_sem, simprocAttr, go_sem, Nat.le_refl, Int.toNat_natCast, Int.toNat_zero, Int.toNat_one, str_eq, cellsV, decide_true, Bool.not_true, Bool.not_false, beq_self_eq_true, encV_nil, encT_nil, Tryd.results3]
      with_reducible refine CallOk.of awake7_ok rfl ?_
      simp (implicitDefEqProofs := false) (disch := omega) only [go_sem, simprocAttr, go_sem, Nat.le_refl, Int.toNat_natCast, Int.toNat_zero, Int.toNat_one, str_eq, cellsV, decide_true, Bool.not_true, Bool.not_false, beq_self_eq_true, encV_nil, encT_nil, Tryd.results3]
    | true =>
      have c1 := pquote_ok s (by omega)
      have c2 := pquote_ok t (by omega)
      have c3 := rquote_ok s (by omega)
      have c4 := vtext_ok s
      have hw : wrV (.mk 3 false 0 s [] []) = true := rfl
      have c5 := rtxt_ok (.mk 3 false 0 s [] []) hw (by rw [szV_eq, nV_eq]; simp only [V.s_mk, V.keys_mk, V.items_mk, szT, szVs_nil, nVs_nil]; omega)
      rw [tV_str] at c5
      simp only [encV_nil, encT_nil, V.kind_mk, V.b_mk, V.n_mk, V.s_mk, V.items_mk, V.keys_mk, cellsV] at c4 c5
      simp (implicitDefEqProofs := false) (disch := omega) only [go_sem, simprocAttr, go_sem, Nat.le_refl, Int.toNat_natCast, Int.toNat_zero, Int.toNat_one, str_eq, cellsV, decide_true, Bool.not_true, Bool.not_false, beq_self_eq_true, encV_nil, encT_nil, Tryd.results3]
      with_reducible refine CallOk.of c1 rfl ?_
      simp (implicitDefEqProofs := false) (disch := omega) only [go_sem, simprocAttr, go_sem, Nat.le_refl, Int.toNat_natCast, Int.toNat_zero, Int.toNat_one, str_eq, cellsV, decide_true, Bool.not_true, Bool.not_false, beq_self_eq_true, encV_nil, encT_nil, Tryd.results3]
      with_reducible refine CallOk.of c3 rfl ?_
      simp (implicitDefEqProofs := false) (disch := omega) only [go_sem, simprocAttr, go_sem, Nat.le_refl, Int.toNat_natCast, Int.toNat_zero, Int.toNat_one, str_eq, cellsV, decide_true, Bool.not_true, Bool.not_false, beq_self_eq_true, encV_nil, encT_nil, Tryd.results3]
      with_reducible refine CallOk.of c1 rfl ?_
      simp (implicitDefEqProofs := false) (disch := omega) only [go_sem, simprocAttr, go_sem, Nat.le_refl, Int.toNat_natCast, Int.toNat_zero, Int.toNat_one, str_eq, cellsV, decide_true, Bool.not_true, Bool.not_false, beq_self_eq_true, encV_nil, encT_nil, Tryd.results3]
      with_reducible refine CallOk.of c4 rfl ?_
      simp (implicitDefEqProofs := false) (disch := omega) only [go_sem, simprocAttr, go_sem, Nat.le_refl, Int.toNat_natCast, Int.toNat_zero, Int.toNat_one, str_eq, cellsV, decide_true, Bool.not_true, Bool.not_false, beq_self_eq_true, encV_nil, encT_nil, Tryd.results3]
      with_reducible refine CallOk.of c5 rfl ?_
      simp (implicitDefEqProofs := false) (disch := omega) only [go_sem, simprocAttr, go_sem, Nat.le_refl, Int.toNat_natCast, Int.toNat_zero, Int.toNat_one, str_eq, cellsV, decide_true, Bool.not_true, Bool.not_false, beq_self_eq_true, encV_nil, encT_nil, Tryd.results3]
      with_reducible refine CallOk.of c1 rfl ?_
      simp (implicitDefEqProofs := false) (disch := omega) only [go_sem, simprocAttr, go_sem, Nat.le_refl, Int.toNat_natCast, Int.toNat_zero, Int.toNat_one, str_eq, cellsV, decide_true, Bool.not_true, Bool.not_false, beq_self_eq_true, encV_nil, encT_nil, Tryd.results3]
      with_reducible refine CallOk.of c2 rfl ?_
      have e : decide (qF s = qF t) = decide (s = t) := decide_eq_decide.2 qF_inj
      simp (implicitDefEqProofs := false) (disch := omega) only [go_sem, simprocAttr, go_sem, Nat.le_refl, Int.toNat_natCast, Int.toNat_zero, Int.toNat_one, str_eq, cellsV, decide_true, Bool.not_true, Bool.not_false, beq_self_eq_true, encV_nil, encT_nil, Tryd.results3, e]
end Go.Proofs.YtmfaejdnaippkaaDoor

end
