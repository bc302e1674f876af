import Derived.Test.YtahgjolokkfhjaaDoorGS7
/-
  Whether twoP values are the same (the document's).
-/
open Go Go.Proofs Go.Pw Go.RowKit
namespace Go.Proofs.YtahgjolokkfhjaaDoor
set_option maxRecDepth 4000
set_option linter.unusedVariables false
set_option linter.unusedSimpArgs false
/-- Two values are one. -/
noncomputable def sameV (a b : V) : Bool := @decide (a = b) (Classical.propDecidable _)
theorem sameV_T {a b : V} (h : a = b) : sameV a b = true := by unfold sameV; simp [h]
theorem sameV_F {a b : V} (h : a ≠ b) : sameV a b = false := by unfold sameV; simp [h]
theorem V.ext_ {a b : V} (h1 : a.kind = b.kind) (h2 : a.b = b.b) (h3 : a.n = b.n) (h4 : a.s = b.s) (h5 : a.items = b.items) (h6 : a.keys = b.keys) : a = b := by
  cases a; cases b
  simp only [V.kind_mk, V.b_mk, V.n_mk, V.s_mk, V.items_mk, V.keys_mk] at *
  subst h1 h2 h3 h4 h5 h6
  rfl
theorem take_succ_eq {α : Type} {l m : List α} {d : α} {i : Nat} (h : l.take i = m.take i) (hi : i < l.length) (hj : i < m.length) (he : l.getD i d = m.getD i d) : l.take (i + 1) = m.take (i + 1) := by
  rw [take_snocG (d := d) hi, take_snocG (d := d) hj, h, he]
set_option maxHeartbeats 16000000 in
theorem same_ok : ∀ a, szV a ≤ 1000000 → ∀ b, szV b ≤ 1000000 → Ok Tryd.prog 15 [.agg (cellsV a), .agg (cellsV b)] (vB (sameV a b)) := by
  refine V.ind fun a ih ha b hb => ?_
  obtain ⟨hl, hl2, hx, hs⟩ := V.small ha
  obtain ⟨hl', hl2', hx', hs'⟩ := V.small hb
  have hit : ∀ i, i < a.items.length → i < b.items.length → Ok Tryd.prog 15 [.agg (cellsV (a.items.getD i default)), .agg (cellsV (b.items.getD i default))] (vB (sameV (a.items.getD i default) (b.items.getD i default))) := fun i hi hj => ih _ (getD_mem hi) (hx _ (getD_mem hi)) _ (hx' _ (getD_mem hj))
  refine Ok.of_pwp (by kernel_rfl) Tryd.func15 rfl (by kernel_rfl) (by kernel_rfl) ?_
  obtain ⟨rr, hr⟩ : ∃ rr, sameV a b = rr := ⟨_, rfl⟩
  rw [hr]
  by_cases h1 : a.kind = b.kind
  rotate_left
  · rw [sameV_F (fun e => h1 (by rw [e]))] at hr
    rw [← hr]
    simp (implicitDefEqProofs := false) (disch := omega) only [go_sem, simprocAttr, go_sem, Nat.le_refl, cellsV, Tryd.results15]
  cases h2 : (a.b == b.b) with
  | false =>
    rw [sameV_F (fun e => by rw [e] at h2; simp at h2)] at hr
    rw [← hr]
    simp (implicitDefEqProofs := false) (disch := omega) only [go_sem, simprocAttr, go_sem, Nat.le_refl, cellsV, h2, Tryd.results15]
  | true =>
  by_cases h3 : a.n = b.n
  rotate_left
  · rw [sameV_F (fun e => h3 (by rw [e]))] at hr
    rw [← hr]
    simp (implicitDefEqProofs := false) (disch := omega) only [go_sem, simprocAttr, go_sem, Nat.le_refl, cellsV, h2, Tryd.results15]
  by_cases h4 : a.s = b.s
  rotate_left
  · rw [sameV_F (fun e => h4 (by rw [e]))] at hr
    rw [← hr]
    simp (implicitDefEqProofs := false) (disch := omega) only [go_sem, simprocAttr, go_sem, Nat.le_refl, cellsV, h2, h4, Tryd.results15]
  have h4' : decide (a.s = b.s) = true := decide_eq_true h4
  by_cases h5 : a.items.length = b.items.length
  rotate_left
  · rw [sameV_F (fun e => h5 (by rw [e]))] at hr
    rw [← hr]
    simp (implicitDefEqProofs := false) (disch := omega) only [go_sem, simprocAttr, go_sem, Nat.le_refl, cellsV, h2, h4', Tryd.results15]
  by_cases h6 : a.keys.length = b.keys.length
  rotate_left
  · rw [sameV_F (fun e => h6 (by rw [e]))] at hr
    rw [← hr]
    simp (implicitDefEqProofs := false) (disch := omega) only [go_sem, simprocAttr, go_sem, Nat.le_refl, cellsV, h2, h4', Tryd.results15]
  simp (implicitDefEqProofs := false) (disch := omega) only [go_sem, simprocAttr, go_sem, Nat.le_refl, cellsV, h2, h4', Tryd.results15]
  refine p_loop (ι := { i : Nat // i ≤ a.keys.length ∧ a.keys.take i = b.keys.take i })
    (fun p => ⟨[(54, vI p.1), (53, vI a.keys.length), (3, .ptr 1 0), (2, .ptr 0 0)], [(1, .box 28 (cellsV b)), (0, .box 28 (cellsV a))], [], 2, 0⟩) (fun p => a.keys.length - p.1) ⟨0, Nat.zero_le _, by simp⟩ ?_ ?_
  · refine ⟨?_, ?_, ?_, ?_, ?_, ?_, ?_⟩ <;> simp only [go_sem, simprocAttr, decide_eq_true_eq, Int.natCast_zero] <;> try first | omega | ((repeat' (first | exact And.intro rfl (by omega) | (refine And.intro ?_ ?_))) <;> first | rfl | omega | (congr 3; omega) | (congr 2; omega))
  · rintro ⟨i, g1, g2⟩
    simp only at g1 g2 ⊢
    by_cases hi : i < a.keys.length
    · by_cases he : a.keys.getD i ByteArray.empty = b.keys.getD i ByteArray.empty
      · simp (implicitDefEqProofs := false) (disch := omega) only [go_sem, simprocAttr, go_sem, Nat.le_refl, cellsV, he, Tryd.results15]
        refine ⟨⟨i + 1, hi, take_succ_eq g2 hi (by omega) he⟩, by simp only; omega, ?_⟩
        refine ⟨?_, ?_, ?_, ?_, ?_, ?_, ?_⟩ <;> simp only [go_sem, simprocAttr, decide_eq_true_eq, Int.natCast_add, Int.natCast_one] <;> try first | omega | ((repeat' (first | exact And.intro rfl (by omega) | (refine And.intro ?_ ?_))) <;> first | rfl | omega | (congr 3; omega) | (congr 2; omega))
      · rw [sameV_F (fun e => he (by rw [e]))] at hr
        rw [← hr]
        simp (implicitDefEqProofs := false) (disch := omega) only [go_sem, simprocAttr, go_sem, Nat.le_refl, cellsV, he, Tryd.results15]
    · simp (implicitDefEqProofs := false) (disch := omega) only [go_sem, simprocAttr, go_sem, Nat.le_refl, cellsV, Tryd.results15]
      rw [List.take_of_length_le (by omega), List.take_of_length_le (by omega)] at g2
      refine p_loop (ι := { i : Nat // i ≤ a.items.length ∧ a.items.take i = b.items.take i })
        (fun p => ⟨[(72, vI p.1), (71, vI a.items.length), (3, .ptr 1 0), (2, .ptr 0 0)], [(1, .box 28 (cellsV b)), (0, .box 28 (cellsV a))], [], 2, 0⟩) (fun p => a.items.length - p.1) ⟨0, Nat.zero_le _, by simp⟩ ?_ ?_
      · refine ⟨?_, ?_, ?_, ?_, ?_, ?_, ?_⟩ <;> simp only [go_sem, simprocAttr, decide_eq_true_eq, Int.natCast_zero] <;> try first | omega | ((repeat' (first | exact And.intro rfl (by omega) | (refine And.intro ?_ ?_))) <;> first | rfl | omega | (congr 3; omega) | (congr 2; omega))
      · rintro ⟨j, k1, k2⟩
        simp only at k1 k2 ⊢
        by_cases hj : j < a.items.length
        · have hc := hit j hj (by omega)
          by_cases he : a.items.getD j default = b.items.getD j default
          · rw [sameV_T he] at hc
            simp (implicitDefEqProofs := false) (disch := omega) only [go_sem, simprocAttr, go_sem, Nat.le_refl, cellsV, Tryd.results15]
            with_reducible refine CallOk.of (hc) rfl ?_
            simp (implicitDefEqProofs := false) (disch := omega) only [go_sem, simprocAttr, go_sem, Nat.le_refl, cellsV, Tryd.results15]
            refine ⟨⟨j + 1, hj, take_succ_eq k2 hj (by omega) he⟩, by simp only; omega, ?_⟩
            refine ⟨?_, ?_, ?_, ?_, ?_, ?_, ?_⟩ <;> simp only [go_sem, simprocAttr, decide_eq_true_eq, Int.natCast_add, Int.natCast_one] <;> try first | omega | ((repeat' (first | exact And.intro rfl (by omega) | (refine And.intro ?_ ?_))) <;> first | rfl | omega | (congr 3; omega) | (congr 2; omega))
          · rw [sameV_F he] at hc
            rw [sameV_F (fun e => he (by rw [e]))] at hr
            rw [← hr]
            simp (implicitDefEqProofs := false) (disch := omega) only [go_sem, simprocAttr, go_sem, Nat.le_refl, cellsV, Tryd.results15]
            with_reducible refine CallOk.of (hc) rfl ?_
            simp (implicitDefEqProofs := false) (disch := omega) only [go_sem, simprocAttr, go_sem, Nat.le_refl, cellsV, Tryd.results15]
        · rw [List.take_of_length_le (by omega), List.take_of_length_le (by omega)] at k2
          rw [sameV_T (V.ext_ h1 (by simpa using h2) h3 h4 k2 g2)] at hr
          rw [← hr]
          simp (implicitDefEqProofs := false) (disch := omega) only [go_sem, simprocAttr, go_sem, Nat.le_refl, cellsV, Tryd.results15]
end Go.Proofs.YtahgjolokkfhjaaDoor
