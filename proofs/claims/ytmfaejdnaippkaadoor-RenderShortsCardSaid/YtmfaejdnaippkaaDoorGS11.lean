import Derived.Test.YtmfaejdnaippkaaDoorGS10
/-
  An object with one more key (the document's).
-/
open Go Go.Proofs Go.Pw Go.RowKit
namespace Go.Proofs.YtmfaejdnaippkaaDoor
set_option maxRecDepth 4000
set_option linter.unusedVariables false
set_option linter.unusedSimpArgs false
/-- An object with one more key. -/
def putF (v : V) (key : ByteArray) (x : V) : PV :=
  if foundT v.keys key = true then .tup [.agg (cellsV v), vB false]
  else .tup [.agg (cellsV (.mk 5 false 0 ByteArray.empty (insAt v.items (posT v.keys key) x) (insAt v.keys (posT v.keys key) key))), vB true]
set_option maxHeartbeats 8000000 in
theorem put_ok (v : V) (key : ByteArray) (x : V) (hv : szV v ≤ 1000000) (hk : v.keys.length ≤ v.items.length) : Ok Tryd.prog 25 [.agg (cellsV v), vS key, .agg (cellsV x)] (putF v key x) := by
  obtain ⟨hl, hl2, hx, hs⟩ := V.small hv
  suffices key : ∀ rr, rr = putF v key x → Ok Tryd.prog 25 [.agg (cellsV v), vS key, .agg (cellsV x)] rr from key _ rfl
  intro rr hr
  refine Ok.of_pwp (by kernel_rfl) Tryd.func25 rfl (by kernel_rfl) (by kernel_rfl) ?_
  simp (implicitDefEqProofs := false) (disch := omega) only [go_sem, simprocAttr, go_sem, Nat.le_refl, cellsV, Tryd.results25, encT_take, encT_drop, encV_take, encV_drop, List.take_length]
  refine p_loop (ι := { i : Nat // i ≤ v.keys.length ∧ ∀ k, k < i → ltT (v.keys.getD k ByteArray.empty) key = true })
    (fun p => ⟨[(8, vI p.1), (7, vB false), (6, .ptr 2 0), (5, .ptr 1 0), (3, .ptr 0 0), (1, vS key)], [(2, .box 35 [vI 0, vB false, vI 0, vS ByteArray.empty, vNil, vNil]), (1, .box 35 (cellsV x)), (0, .box 35 (cellsV v))], [], 3, 0⟩) (fun p => v.keys.length - p.1) ⟨0, Nat.zero_le _, fun k h => absurd h (Nat.not_lt_zero _)⟩ ?_ ?_
  · refine ⟨?_, ?_, ?_, ?_, ?_, ?_, ?_⟩ <;> simp only [go_sem, simprocAttr, decide_eq_true_eq, Int.natCast_zero] <;> try first | omega | ((repeat' (first | exact And.intro rfl (by omega) | (refine And.intro ?_ ?_))) <;> first | rfl | omega | (congr 3; omega) | (congr 2; omega))
  · rintro ⟨i, h1, h2⟩
    simp only at h1 h2 ⊢
    by_cases hi : i < v.keys.length
    · cases hc : ltT (v.keys.getD i ByteArray.empty) key with
      | true =>
        unfold ltT at hc
        simp (implicitDefEqProofs := false) (disch := omega) only [go_sem, simprocAttr, go_sem, Nat.le_refl, cellsV, hc, Tryd.results25]
        refine ⟨⟨i + 1, hi, fun k hk => ?_⟩, by simp only; omega, ?_⟩
        · rcases Nat.lt_or_eq_of_le (Nat.le_of_lt_succ hk) with h | h
          · exact h2 k h
          · rw [h]; exact hc
        · refine ⟨?_, ?_, ?_, ?_, ?_, ?_, ?_⟩ <;> simp only [go_sem, simprocAttr, decide_eq_true_eq, Int.natCast_add, Int.natCast_one] <;> try first | omega | ((repeat' (first | exact And.intro rfl (by omega) | (refine And.intro ?_ ?_))) <;> first | rfl | omega | (congr 3; omega) | (congr 2; omega))
      | false =>
        have hp : posT v.keys key = i := posT_of h1 h2 (fun _ => hc)
        have hf : foundT v.keys key = decide (v.keys.getD i ByteArray.empty = key) := by unfold foundT; rw [hp, decide_eq_true hi, Bool.true_and]
        unfold ltT at hc
        unfold putF at hr
        rw [hf, hp] at hr
        by_cases he : v.keys.getD i ByteArray.empty = key
        · rw [if_pos (decide_eq_true he)] at hr
          have hc' := hc
          rw [he] at hc'
          simp (implicitDefEqProofs := false) (disch := omega) only [go_sem, simprocAttr, go_sem, Nat.le_refl, cellsV, he, hc', Tryd.results25]
          rw [hr]
        · rw [if_neg (by rw [decide_eq_false he]; decide)] at hr
          simp (implicitDefEqProofs := false) (disch := omega) only [go_sem, simprocAttr, go_sem, Nat.le_refl, cellsV, hc, he, Tryd.results25, encT_take, encT_drop, encV_take, encV_drop]
          (have ht1 : (v.keys.take i).length = i := by rw [List.length_take]; omega); (have ht2 : (v.items.take i).length = i := by rw [List.length_take]; omega); (have ht3 : (v.keys.drop i).length = v.keys.length - i := List.length_drop); (have ht4 : (v.items.drop i).length = v.items.length - i := List.length_drop); refine appZ_any rfl rfl (by rw [encT_len, List.length_nil]; omega) (by rw [encT_len, List.length_nil]; omega) ?_; (simp (implicitDefEqProofs := false) (disch := omega) only [go_sem, simprocAttr, go_sem, Nat.le_refl, cellsV, Tryd.results25, encT_take, encT_drop, encV_take, encV_drop, List.take_length]); refine appZ_any rfl (by simp only [List.length_append, encT_len, List.length_singleton]) (by simp only [List.length_append, encT_len, List.length_singleton]; omega) (by simp only [List.length_append, encT_len, List.length_singleton]; omega) ?_; (simp (implicitDefEqProofs := false) (disch := omega) only [go_sem, simprocAttr, go_sem, Nat.le_refl, cellsV, Tryd.results25, encT_take, encT_drop, encV_take, encV_drop, List.take_length]); refine appZ_any rfl rfl (by rw [encV_len, List.length_nil]; omega) (by rw [encV_len, List.length_nil]; omega) ?_; (simp (implicitDefEqProofs := false) (disch := omega) only [go_sem, simprocAttr, go_sem, Nat.le_refl, cellsV, Tryd.results25, encT_take, encT_drop, encV_take, encV_drop, List.take_length]); refine appZ_any rfl (by simp only [List.length_append, encV_len, List.length_singleton]) (by simp only [List.length_append, encV_len, List.length_singleton]; omega) (by simp only [List.length_append, encV_len, List.length_singleton]; omega) ?_; (simp (implicitDefEqProofs := false) (disch := omega) only [go_sem, simprocAttr, go_sem, Nat.le_refl, cellsV, Tryd.results25, encT_take, encT_drop, encV_take, encV_drop, List.take_length]); rw [hr]; simp only [insAt, encT, encV_map, List.map_append, List.map_cons, List.map_nil, cellsV, V.kind_mk, V.b_mk, V.n_mk, V.s_mk, V.items_mk, V.keys_mk]
    · have hie : i = v.keys.length := by omega
      have hp : posT v.keys key = i := posT_of h1 h2 (fun h => absurd h hi)
      have hf : foundT v.keys key = false := by unfold foundT; rw [hp, decide_eq_false hi, Bool.false_and]
      unfold putF at hr
      rw [if_neg (by rw [hf]; decide), hp] at hr
      simp (implicitDefEqProofs := false) (disch := omega) only [go_sem, simprocAttr, go_sem, Nat.le_refl, cellsV, Tryd.results25, encT_take, encT_drop, encV_take, encV_drop, List.take_length]
      (have ht1 : (v.keys.take i).length = i := by rw [List.length_take]; omega); (have ht2 : (v.items.take i).length = i := by rw [List.length_take]; omega); (have ht3 : (v.keys.drop i).length = v.keys.length - i := List.length_drop); (have ht4 : (v.items.drop i).length = v.items.length - i := List.length_drop); refine appZ_any rfl rfl (by rw [encT_len, List.length_nil]; omega) (by rw [encT_len, List.length_nil]; omega) ?_; (simp (implicitDefEqProofs := false) (disch := omega) only [go_sem, simprocAttr, go_sem, Nat.le_refl, cellsV, Tryd.results25, encT_take, encT_drop, encV_take, encV_drop, List.take_length]); refine appZ_any rfl (by simp only [List.length_append, encT_len, List.length_singleton]) (by simp only [List.length_append, encT_len, List.length_singleton]; omega) (by simp only [List.length_append, encT_len, List.length_singleton]; omega) ?_; (simp (implicitDefEqProofs := false) (disch := omega) only [go_sem, simprocAttr, go_sem, Nat.le_refl, cellsV, Tryd.results25, encT_take, encT_drop, encV_take, encV_drop, List.take_length]); refine appZ_any rfl rfl (by rw [encV_len, List.length_nil]; omega) (by rw [encV_len, List.length_nil]; omega) ?_; (simp (implicitDefEqProofs := false) (disch := omega) only [go_sem, simprocAttr, go_sem, Nat.le_refl, cellsV, Tryd.results25, encT_take, encT_drop, encV_take, encV_drop, List.take_length]); refine appZ_any rfl (by simp only [List.length_append, encV_len, List.length_singleton]) (by simp only [List.length_append, encV_len, List.length_singleton]; omega) (by simp only [List.length_append, encV_len, List.length_singleton]; omega) ?_; (simp (implicitDefEqProofs := false) (disch := omega) only [go_sem, simprocAttr, go_sem, Nat.le_refl, cellsV, Tryd.results25, encT_take, encT_drop, encV_take, encV_drop, List.take_length]); rw [hr]; simp only [insAt, encT, encV_map, List.map_append, List.map_cons, List.map_nil, cellsV, V.kind_mk, V.b_mk, V.n_mk, V.s_mk, V.items_mk, V.keys_mk]
end Go.Proofs.YtmfaejdnaippkaaDoor
