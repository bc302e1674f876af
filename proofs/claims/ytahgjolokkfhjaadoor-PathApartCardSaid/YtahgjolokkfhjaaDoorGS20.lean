/-
  Contracts and plain laws on the way to the statement; each says its own conditions.
-/
import Derived.Test.YtahgjolokkfhjaaDoorGS16
import Derived.Test.YtahgjolokkfhjaaDoorGS17
import Derived.Test.YtahgjolokkfhjaaDoorGS18
import Derived.Test.YtahgjolokkfhjaaDoorGS19
import Derived.Test.YtahgjolokkfhjaaDoorGS15
import Derived.Test.YtahgjolokkfhjaaDoorGS3
import Derived.ChangeSlices
import Derived.ChangeArms
import Derived.OpenShut
section
/-
  A value's copy: its contracts.
-/
open Go Go.Proofs Go.Pw Go.RowKit
namespace Go.Proofs.YtahgjolokkfhjaaDoor
set_option maxRecDepth 4000
set_option linter.unusedVariables false
set_option linter.unusedSimpArgs false
theorem copy_sub (v : V) (hv : szV v ≤ 1000000) (hsub : ∀ u ∈ v.items, Ok Tryd.prog 38 [.agg (cellsV u)] (.agg (cellsV u))) : OkH Tryd.prog 38 [.agg (cellsV v)] (CopyQ v) := by
  obtain ⟨hl, hl2, hx, hs⟩ := V.small hv
  obtain ⟨k, b, n, s, is, ks⟩ := v
  rw [V.items_mk] at hl hsub
  rw [V.keys_mk] at hl2
  cases is with
  | nil => cases ks with
    | nil => exact c11_H k b n s default [] ByteArray.empty [] hsub (by decide) (by decide)
    | cons y ys => exact c01_H k b n s default [] y ys hsub (by decide) hl2
  | cons x xs => cases ks with
    | nil => exact c10_H k b n s x xs ByteArray.empty [] hsub hl (by decide)
    | cons y ys => exact c00_H k b n s x xs y ys hsub hl hl2
theorem fz_msV {iI cI iK cK : Nat} {rI rK : List PV} (hne : iI ≠ iK) (l : List V) (ks : List ByteArray) : fzH Tryd.prog (hpV iI rI l ++ hpT iK rK ks) (msV iI cI l) = some (.sl (encV l)) := by
  cases l with
  | nil => rw [encV_nil]; rfl
  | cons x r =>
    simp only [msV, hpV, fzH, List.cons_append, List.nil_append, lkp, if_true, show sizeOf? Tryd.prog 32 = some 6 from rfl, List.drop_zero]
    rw [if_pos ⟨by decide, by rw [List.length_append, flatV_len]; omega⟩, chunksV, fz_encV]; rfl
theorem fz_msT {iI cI iK cK : Nat} {rI rK : List PV} (hne : iI ≠ iK) (l : List V) (ks : List ByteArray) : fzH Tryd.prog (hpV iI rI l ++ hpT iK rK ks) (msT iK cK ks) = some (.sl (encT ks)) := by
  cases ks with
  | nil => rfl
  | cons y r =>
    have h1 : lkp (hpV iI rI l ++ hpT iK rK (y :: r)) iK = some (.box 9 (flatT (y :: r) ++ rK)) := by
      cases l with
      | nil => simp [hpV, hpT, lkp]
      | cons x q => simp [hpV, hpT, lkp, Ne.symm hne]
    simp only [msT, fzH, h1, show sizeOf? Tryd.prog 9 = some 1 from rfl, List.drop_zero]
    rw [if_pos ⟨by decide, by rw [List.length_append, flatT_len]; omega⟩, chunksT, fz_encT]; rfl
theorem copy_fz (v : V) : ∀ r s, CopyQ v r s → fzHA Tryd.prog s.heap r = some (.agg (cellsV v)) := by
  rintro r s ⟨iI, cI, rI, iK, cK, rK, nx, nt, hne, _, _, _, _, _, _, _, _, _, _, rfl, rfl⟩
  have c : ∀ {h : List (Nat × PObj)} {p q : PV} {l m : List PV}, fzH Tryd.prog h p = some q → fzHL Tryd.prog h l = some m → fzHL Tryd.prog h (p :: l) = some (q :: m) := fun h1 h2 => by rw [fzHL, h1, h2]
  rw [fzHA, c (q := vI v.kind) rfl (c (q := vB v.b) rfl (c (q := vI v.n) rfl (c (q := vS v.s) rfl (c (fz_msV (cK := 0) hne _ _) (c (fz_msT (cI := 0) hne _ _) rfl)))))]
  rfl
/-- A copy is the same. -/
theorem copy_ok : ∀ v, szV v ≤ 1000000 → Ok Tryd.prog 38 [.agg (cellsV v)] (.agg (cellsV v)) := by
  refine V.ind fun v ih hv => ?_
  obtain ⟨hl, hl2, hx, hs⟩ := V.small hv
  exact Ok.ofH (copy_sub v hv (fun u hu => ih u hu (hx u hu))) (copy_fz v)
/-- A copy, in memory of its own. -/
theorem copy_H (v : V) (hv : szV v ≤ 1000000) : OkH Tryd.prog 38 [.agg (cellsV v)] (CopyQ v) := by
  obtain ⟨hl, hl2, hx, hs⟩ := V.small hv
  exact copy_sub v hv (fun u hu => copy_ok u (hx u hu))
end Go.Proofs.YtahgjolokkfhjaaDoor

end
section
/-
  Chapter 4: steps; what a path leads to.
-/
open Go Go.Proofs Go.Pw Go.RowKit
namespace Go.Proofs.YtahgjolokkfhjaaDoor
set_option maxRecDepth 4000
set_option linter.unusedVariables false
set_option linter.unusedSimpArgs false
def stepB (s : ByteArray) : Bool := decide (s.size ≤ 60) && isT s
def stepsB (p : List ByteArray) : Bool := p.all stepB && decide (p.length ≤ 10)
theorem allT_of {q : ByteArray → Bool} {l : List ByteArray} (h : ∀ j, j < l.length → q (l.getD j ByteArray.empty) = true) : l.all q = true := by
  rw [List.all_eq_true]
  intro x hx
  obtain ⟨j, hj, rfl⟩ := List.mem_iff_getElem.1 hx
  have := h j hj
  rw [List.getD_eq_getElem?_getD, List.getElem?_eq_getElem hj] at this
  exact this
theorem allT_no {q : ByteArray → Bool} {l : List ByteArray} {j : Nat} (hj : j < l.length) (h : q (l.getD j ByteArray.empty) = false) : l.all q = false := by
  apply Bool.eq_false_iff.2
  intro k
  rw [List.all_eq_true] at k
  have := k (l.getD j ByteArray.empty) (by rw [List.getD_eq_getElem?_getD, List.getElem?_eq_getElem hj]; exact List.getElem_mem hj)
  rw [h] at this
  cases this
set_option maxHeartbeats 4000000 in
theorem steps_ok (p : List ByteArray) (hl : p.length ≤ 9223372036854775807) : Ok Tryd.prog 10 [.sl (encT p)] (vB (stepsB p)) := by
  unfold stepsB
  obtain ⟨al, hal⟩ : ∃ al, p.all stepB = al := ⟨_, rfl⟩
  rw [hal]
  refine Ok.of_pwp (by kernel_rfl) Tryd.func10 rfl (by kernel_rfl) (by kernel_rfl) ?_
  simp (implicitDefEqProofs := false) (disch := omega) only [go_sem, simprocAttr, go_sem, Nat.le_refl, Int.toNat_natCast, Int.toNat_zero, Int.toNat_one, str_eq, cellsV, decide_true, Bool.not_true, Bool.not_false, Tryd.results10]
  refine p_loop (ι := { i : Nat // i ≤ p.length ∧ ∀ j, j < i → stepB (p.getD j ByteArray.empty) = true }) (fun i => ⟨[(7, vI i.1), (6, vI p.length), (5, .sl (encT p)), (0, .sl (encT p))], [], [], 0, 0⟩) (fun i => p.length - i.1) ⟨0, Nat.zero_le _, fun j h => by omega⟩ ?_ ?_
  · refine ⟨?_, ?_, ?_, ?_, ?_, ?_, ?_⟩ <;> simp only [go_sem, simprocAttr, decide_eq_true_eq, Int.natCast_zero] <;> try first | omega | ((repeat' (first | exact And.intro rfl (by omega) | (refine And.intro ?_ ?_))) <;> first | rfl | omega | (congr 3; omega) | (congr 2; omega))
  · rintro ⟨i, k1, k2⟩
    simp only
    by_cases hi : i < p.length
    · by_cases hz : (p.getD i ByteArray.empty).size ≤ 60
      · have c0 := rvalid_ok (p.getD i ByteArray.empty) (by omega)
        cases ht : decide ((scan (p.getD i ByteArray.empty) 0).2 = (p.getD i ByteArray.empty).size) with
        | true =>
          rw [ht] at c0
          have hs : stepB (p.getD i ByteArray.empty) = true := by unfold stepB isT; rw [decide_eq_true hz, ht]; rfl
          simp (implicitDefEqProofs := false) (disch := omega) only [go_sem, simprocAttr, go_sem, Nat.le_refl, Int.toNat_natCast, Int.toNat_zero, Int.toNat_one, str_eq, cellsV, decide_true, Bool.not_true, Bool.not_false, Tryd.results10]
          with_reducible refine CallOk.of c0 rfl ?_
          simp (implicitDefEqProofs := false) (disch := omega) only [go_sem, simprocAttr, go_sem, Nat.le_refl, Int.toNat_natCast, Int.toNat_zero, Int.toNat_one, str_eq, cellsV, decide_true, Bool.not_true, Bool.not_false, Tryd.results10]
          refine ⟨⟨i + 1, by omega, fun j hj => by
            by_cases e : j = i
            · subst e; exact hs
            · exact k2 j (by omega)⟩, by simp only; omega, ?_⟩
          refine ⟨?_, ?_, ?_, ?_, ?_, ?_, ?_⟩ <;> simp only [go_sem, simprocAttr, decide_eq_true_eq, Int.natCast_add, Int.natCast_one] <;> try first | omega | ((repeat' (first | exact And.intro rfl (by omega) | (refine And.intro ?_ ?_))) <;> first | rfl | omega | (congr 3; omega) | (congr 2; omega))
        | false =>
          rw [ht] at c0
          have e : al = false := by rw [← hal]; exact allT_no hi (by unfold stepB isT; rw [ht, Bool.and_false])
          subst e
          simp (implicitDefEqProofs := false) (disch := omega) only [go_sem, simprocAttr, go_sem, Nat.le_refl, Int.toNat_natCast, Int.toNat_zero, Int.toNat_one, str_eq, cellsV, decide_true, Bool.not_true, Bool.not_false, Tryd.results10]
          with_reducible refine CallOk.of c0 rfl ?_
          simp (implicitDefEqProofs := false) (disch := omega) only [go_sem, simprocAttr, go_sem, Nat.le_refl, Int.toNat_natCast, Int.toNat_zero, Int.toNat_one, str_eq, cellsV, decide_true, Bool.not_true, Bool.not_false, Tryd.results10]
          try rfl
      · have e : al = false := by rw [← hal]; exact allT_no hi (by unfold stepB; rw [decide_eq_false hz]; rfl)
        subst e
        simp (implicitDefEqProofs := false) (disch := omega) only [go_sem, simprocAttr, go_sem, Nat.le_refl, Int.toNat_natCast, Int.toNat_zero, Int.toNat_one, str_eq, cellsV, decide_true, Bool.not_true, Bool.not_false, Tryd.results10]
        try rfl
    · have e : al = true := by rw [← hal]; exact allT_of (fun j hj => k2 j (by omega))
      subst e
      by_cases h10 : p.length ≤ 10
      · rw [decide_eq_true h10]
        simp (implicitDefEqProofs := false) (disch := omega) only [go_sem, simprocAttr, go_sem, Nat.le_refl, Int.toNat_natCast, Int.toNat_zero, Int.toNat_one, str_eq, cellsV, decide_true, Bool.not_true, Bool.not_false, Tryd.results10]
        first | done | rw [decide_eq_true (show ((p.length : Int) ≤ 10) by omega)] | rfl
      · rw [decide_eq_false h10]
        simp (implicitDefEqProofs := false) (disch := omega) only [go_sem, simprocAttr, go_sem, Nat.le_refl, Int.toNat_natCast, Int.toNat_zero, Int.toNat_one, str_eq, cellsV, decide_true, Bool.not_true, Bool.not_false, Tryd.results10]
        first | done | rw [decide_eq_false (show ¬ ((p.length : Int) ≤ 10) by omega)] | rfl
/-- A value that may be. -/
def GV (v : V) : Prop := goodB v = true ∧ szV v ≤ 1000000
theorem GV.sort {v : V} (h : GV v) : SortT v.keys := by
  have hg := h.1
  rw [goodB_eq] at hg
  simp only [Bool.and_eq_true] at hg
  have hk := hg.1.1.2
  unfold keyedB at hk
  simp only [Bool.and_eq_true] at hk
  exact (sortB_iff _).1 hk.1.2
theorem GV.lens {v : V} (h : GV v) : v.keys.length ≤ v.items.length := by
  have hg := h.1
  rw [goodB_eq] at hg
  simp only [Bool.and_eq_true] at hg
  have hbare := hg.1.1.1.2
  have hkey := hg.1.1.2
  unfold bareB at hbare
  unfold keyedB at hkey
  simp only [Bool.and_eq_true, Bool.or_eq_true, decide_eq_true_eq] at hbare hkey
  rcases hbare.2 with h | h
  · rcases hkey.2 with h' | h'
    · exact absurd h h'
    · omega
  · omega
theorem GV.item {v x : V} (h : GV v) (hx : x ∈ v.items) : GV x := by
  refine ⟨?_, (V.small h.2).2.2.1 x hx⟩
  have hg := h.1
  rw [goodB_eq] at hg
  simp only [Bool.and_eq_true, List.all_eq_true] at hg
  exact hg.2 x hx
theorem GV.at {v : V} {t : ByteArray} (h : GV v) (k : ¬ plc v t < 0) : (plc v t).toNat < v.items.length := by
  have hl := h.lens
  unfold plc at k ⊢
  split at k
  · split at k
    · rename_i h5 hf
      rw [if_pos h5, if_pos hf]
      unfold foundT at hf
      simp only [Bool.and_eq_true, decide_eq_true_eq] at hf
      omega
    · exact absurd (by decide) k
  · split at k
    · rename_i h5 h4
      rw [if_neg h5, if_pos h4]
      unfold ixT at k ⊢
      cases hf : (List.range v.items.length).find? (fun i : Nat => decide (sOf i = t)) with
      | none => rw [hf] at k; exact absurd (by decide) k
      | some i =>
        have := List.mem_range.1 (List.mem_of_find?_eq_some hf)
        simp only
        omega
    · exact absurd (by decide) k
theorem TreeOk.gv {v : V} (h : TreeOk v) : GV v := ⟨h.good, by have := h.sz; omega⟩
/-- What a path leads to. -/
def getV : V → List ByteArray → Option V
  | v, [] => some v
  | v, t :: r => if plc v t < 0 then none else getV (v.items.getD (plc v t).toNat default) r
theorem getV_step {v : V} {p : List ByteArray} {i : Nat} (h : i < p.length) : getV v (p.drop i) = if plc v (p.getD i ByteArray.empty) < 0 then none else getV (v.items.getD (plc v (p.getD i ByteArray.empty)).toNat default) (p.drop (i + 1)) := by
  have eg : p.getD i ByteArray.empty = p[i] := by rw [List.getD_eq_getElem?_getD, List.getElem?_eq_getElem h]; rfl
  rw [List.drop_eq_getElem_cons h, getV, eg]
def resG : Option V → PV
  | some v => .tup [.agg (cellsV v), vI 0]
  | none => .tup [.agg (cellsV vZero), vI 12]
def resB : Option V → PV
  | some v => .tup [.agg (cellsV v), vB true]
  | none => .tup [.agg (cellsV vZero), vB false]
end Go.Proofs.YtahgjolokkfhjaaDoor

end
section
/-
  Chapter 4: what a path leads to: the program's and the document's.
-/
open Go Go.Proofs Go.Pw Go.RowKit
namespace Go.Proofs.YtahgjolokkfhjaaDoor
set_option maxRecDepth 4000
set_option linter.unusedVariables false
set_option linter.unusedSimpArgs false
theorem vz_cells : cellsV vZero = [vI 0, vB false, vI 0, vS ByteArray.empty, .sl [], .sl []] := by simp only [cellsV, vZero, V.kind_mk, V.b_mk, V.n_mk, V.s_mk, V.items_mk, V.keys_mk, encV_nil, encT_nil]
set_option maxHeartbeats 4000000 in
theorem get_ok (v : V) (p : List ByteArray) (hv : GV v) (hp : fewT p) (hl : p.length ≤ 1000000) : Ok Tryd.prog 12 [.agg (cellsV v), .sl (encT p)] (resG (getV v p)) := by
  refine Ok.of_pwp (by kernel_rfl) Tryd.func12 rfl (by kernel_rfl) (by kernel_rfl) ?_
  obtain ⟨R, hR⟩ : ∃ R, getV v p = R := ⟨_, rfl⟩
  rw [hR]
  simp (implicitDefEqProofs := false) (disch := omega) only [go_sem, simprocAttr, go_sem, Nat.le_refl, Int.toNat_natCast, Int.toNat_zero, Int.toNat_one, str_eq, cellsV, decide_true, Bool.not_true, Bool.not_false, Tryd.results12]
  refine p_loop (ι := { q : Nat × V // q.1 ≤ p.length ∧ GV q.2 ∧ getV q.2 (p.drop q.1) = R }) (fun q => ⟨[(11, vI q.1.1), (10, vI p.length), (9, .sl (encT p)), (4, .ptr 1 0), (2, .ptr 0 0)], [(1, .box 32 [vI 0, vB false, vI 0, vS ByteArray.empty, vNil, vNil]), (0, .box 32 (cellsV q.1.2))], [], 2, 0⟩) (fun q => p.length - q.1.1) ⟨(0, v), Nat.zero_le _, hv, hR⟩ ?_ ?_
  · refine ⟨?_, ?_, ?_, ?_, ?_, ?_, ?_⟩ <;> simp only [go_sem, simprocAttr, decide_eq_true_eq, Int.natCast_zero, cellsV] <;> try first | omega | ((repeat' (first | exact And.intro rfl (by omega) | (refine And.intro ?_ ?_))) <;> first | rfl | omega | (congr 3; omega) | (congr 2; omega))
  · rintro ⟨⟨i, u⟩, k1, k2, k3⟩
    simp only at k1 k2 k3 ⊢
    by_cases hi : i < p.length
    · rw [getV_step hi] at k3
      have c0 := place_ok u (p.getD i ByteArray.empty) k2.2 k2.sort (hp.get i)
      have hat := k2.at (t := p.getD i ByteArray.empty)
      simp only [cellsV] at c0
      by_cases hn : plc u (p.getD i ByteArray.empty) < 0
      · rw [if_pos hn] at k3
        subst k3
        unfold resG
        rw [vz_cells]
        simp (implicitDefEqProofs := false) (disch := omega) only [go_sem, simprocAttr, go_sem, Nat.le_refl, Int.toNat_natCast, Int.toNat_zero, Int.toNat_one, str_eq, cellsV, decide_true, Bool.not_true, Bool.not_false, Tryd.results12]
        with_reducible refine CallOk.of c0 rfl ?_
        simp (implicitDefEqProofs := false) (disch := omega) only [go_sem, simprocAttr, go_sem, Nat.le_refl, Int.toNat_natCast, Int.toNat_zero, Int.toNat_one, str_eq, cellsV, decide_true, Bool.not_true, Bool.not_false, Tryd.results12]
      · rw [if_neg hn] at k3
        have hlt := hat hn
        generalize plc u (p.getD i ByteArray.empty) = a at *
        simp (implicitDefEqProofs := false) (disch := omega) only [go_sem, simprocAttr, go_sem, Nat.le_refl, Int.toNat_natCast, Int.toNat_zero, Int.toNat_one, str_eq, cellsV, decide_true, Bool.not_true, Bool.not_false, Tryd.results12]
        with_reducible refine CallOk.of c0 rfl ?_
        simp (implicitDefEqProofs := false) (disch := omega) only [go_sem, simprocAttr, go_sem, Nat.le_refl, Int.toNat_natCast, Int.toNat_zero, Int.toNat_one, str_eq, cellsV, decide_true, Bool.not_true, Bool.not_false, Tryd.results12]
        refine ⟨⟨(i + 1, u.items.getD a.toNat default), hi, k2.item (getD_mem hlt), k3⟩, by simp only; omega, ?_⟩
        refine ⟨?_, ?_, ?_, ?_, ?_, ?_, ?_⟩ <;> simp only [go_sem, simprocAttr, decide_eq_true_eq, Int.natCast_add, Int.natCast_one, cellsV] <;> try first | omega | ((repeat' (first | exact And.intro rfl (by omega) | (refine And.intro ?_ ?_))) <;> first | rfl | omega | (congr 3; omega) | (congr 2; omega))
    · have hi' : i = p.length := by omega
      subst hi'
      rw [List.drop_length, getV] at k3
      subst k3
      have c1 := copy_ok u k2.2
      simp only [cellsV] at c1
      unfold resG
      simp (implicitDefEqProofs := false) (disch := omega) only [go_sem, simprocAttr, go_sem, Nat.le_refl, Int.toNat_natCast, Int.toNat_zero, Int.toNat_one, str_eq, cellsV, decide_true, Bool.not_true, Bool.not_false, Tryd.results12]
      with_reducible refine CallOk.of c1 rfl ?_
      simp (implicitDefEqProofs := false) (disch := omega) only [go_sem, simprocAttr, go_sem, Nat.le_refl, Int.toNat_natCast, Int.toNat_zero, Int.toNat_one, str_eq, cellsV, decide_true, Bool.not_true, Bool.not_false, Tryd.results12]
set_option maxHeartbeats 4000000 in
theorem rget_ok (v : V) (p : List ByteArray) (hv : GV v) (hp : fewT p) (hl : p.length ≤ 1000000) : Ok Tryd.prog 14 [.agg (cellsV v), .sl (encT p)] (resB (getV v p)) := by
  refine Ok.of_pwp (by kernel_rfl) Tryd.func14 rfl (by kernel_rfl) (by kernel_rfl) ?_
  obtain ⟨R, hR⟩ : ∃ R, getV v p = R := ⟨_, rfl⟩
  rw [hR]
  simp (implicitDefEqProofs := false) (disch := omega) only [go_sem, simprocAttr, go_sem, Nat.le_refl, Int.toNat_natCast, Int.toNat_zero, Int.toNat_one, str_eq, cellsV, decide_true, Bool.not_true, Bool.not_false, Tryd.results14]
  refine p_loop (ι := { q : Nat × V // q.1 ≤ p.length ∧ GV q.2 ∧ getV q.2 (p.drop q.1) = R }) (fun q => ⟨[(10, vI q.1.1), (9, vI p.length), (4, .ptr 1 0), (2, .ptr 0 0), (1, .sl (encT p))], [(1, .box 28 [vI 0, vB false, vI 0, vS ByteArray.empty, vNil, vNil]), (0, .box 28 (cellsV q.1.2))], [], 2, 0⟩) (fun q => p.length - q.1.1) ⟨(0, v), Nat.zero_le _, hv, hR⟩ ?_ ?_
  · refine ⟨?_, ?_, ?_, ?_, ?_, ?_, ?_⟩ <;> simp only [go_sem, simprocAttr, decide_eq_true_eq, Int.natCast_zero, cellsV] <;> try first | omega | ((repeat' (first | exact And.intro rfl (by omega) | (refine And.intro ?_ ?_))) <;> first | rfl | omega | (congr 3; omega) | (congr 2; omega))
  · rintro ⟨⟨i, u⟩, k1, k2, k3⟩
    simp only at k1 k2 k3 ⊢
    by_cases hi : i < p.length
    · rw [getV_step hi] at k3
      have c0 := rplace_ok u (p.getD i ByteArray.empty) k2.2 k2.sort (hp.get i)
      have hat := k2.at (t := p.getD i ByteArray.empty)
      simp only [cellsV] at c0
      by_cases hn : plc u (p.getD i ByteArray.empty) < 0
      · rw [if_pos hn] at k3
        subst k3
        unfold resB
        rw [vz_cells]
        simp (implicitDefEqProofs := false) (disch := omega) only [go_sem, simprocAttr, go_sem, Nat.le_refl, Int.toNat_natCast, Int.toNat_zero, Int.toNat_one, str_eq, cellsV, decide_true, Bool.not_true, Bool.not_false, Tryd.results14]
        with_reducible refine CallOk.of c0 rfl ?_
        simp (implicitDefEqProofs := false) (disch := omega) only [go_sem, simprocAttr, go_sem, Nat.le_refl, Int.toNat_natCast, Int.toNat_zero, Int.toNat_one, str_eq, cellsV, decide_true, Bool.not_true, Bool.not_false, Tryd.results14]
      · rw [if_neg hn] at k3
        have hlt := hat hn
        generalize plc u (p.getD i ByteArray.empty) = a at *
        simp (implicitDefEqProofs := false) (disch := omega) only [go_sem, simprocAttr, go_sem, Nat.le_refl, Int.toNat_natCast, Int.toNat_zero, Int.toNat_one, str_eq, cellsV, decide_true, Bool.not_true, Bool.not_false, Tryd.results14]
        with_reducible refine CallOk.of c0 rfl ?_
        simp (implicitDefEqProofs := false) (disch := omega) only [go_sem, simprocAttr, go_sem, Nat.le_refl, Int.toNat_natCast, Int.toNat_zero, Int.toNat_one, str_eq, cellsV, decide_true, Bool.not_true, Bool.not_false, Tryd.results14]
        refine ⟨⟨(i + 1, u.items.getD a.toNat default), hi, k2.item (getD_mem hlt), k3⟩, by simp only; omega, ?_⟩
        refine ⟨?_, ?_, ?_, ?_, ?_, ?_, ?_⟩ <;> simp only [go_sem, simprocAttr, decide_eq_true_eq, Int.natCast_add, Int.natCast_one, cellsV] <;> try first | omega | ((repeat' (first | exact And.intro rfl (by omega) | (refine And.intro ?_ ?_))) <;> first | rfl | omega | (congr 3; omega) | (congr 2; omega))
    · have hi' : i = p.length := by omega
      subst hi'
      rw [List.drop_length, getV] at k3
      subst k3
      unfold resB
      simp (implicitDefEqProofs := false) (disch := omega) only [go_sem, simprocAttr, go_sem, Nat.le_refl, Int.toNat_natCast, Int.toNat_zero, Int.toNat_one, str_eq, cellsV, decide_true, Bool.not_true, Bool.not_false, Tryd.results14]
end Go.Proofs.YtahgjolokkfhjaaDoor

end
section
/-
  A function that works on some objects and rows, proved where there are no others, taken where there are.
-/
namespace Go.Pw
open Go Go.RowKit
set_option linter.unusedVariables false
set_option linter.unusedSimpArgs false
mutual
/-- Other numbers: of the objects, of the rows. -/
def PV.rm (f g : Nat → Nat) : PV → PV
  | .val v => .val v
  | .sl xs => .sl xs
  | .row k xs => .row (g k) xs
  | .ptr i o => .ptr (f i) o
  | .ms i lo n c => .ms (f i) lo n c
  | .fp cs => .fp cs
  | .agg cs => .agg (PV.rmL f g cs)
  | .tup cs => .tup (PV.rmL f g cs)
  | .fn h cs => .fn h (PV.rmL f g cs)
  | .iface t p => .iface t (PV.rm f g p)
def PV.rmL (f g : Nat → Nat) : List PV → List PV
  | [] => []
  | p :: r => PV.rm f g p :: PV.rmL f g r
end
def PObj.rm (f g : Nat → Nat) : PObj → PObj
  | .box t cs => .box t (PV.rmL f g cs)
  | .iter s pos => .iter s pos
def rmH (f g : Nat → Nat) : List (Nat × PObj) → List (Nat × PObj)
  | [] => []
  | e :: r => (f e.1, e.2.rm f g) :: rmH f g r
def rmK (g : Nat → Nat) : List (Nat × Tok) → List (Nat × Tok)
  | [] => []
  | e :: r => (g e.1, e.2) :: rmK g r
def dropK (l : List Nat) : List (Nat × Tok) → List (Nat × Tok)
  | [] => []
  | e :: r => if inL e.1 l = true then dropK l r else e :: dropK l r
theorem rmL_get {f g : Nat → Nat} : ∀ {cs : List PV} (i : Nat), (PV.rmL f g cs)[i]? = (cs[i]?).map (PV.rm f g)
  | [], i => by simp [PV.rmL]
  | p :: r, 0 => by simp [PV.rmL]
  | p :: r, i + 1 => by simp [PV.rmL, rmL_get i]
theorem rmL_len {f g : Nat → Nat} : ∀ {cs : List PV}, (PV.rmL f g cs).length = cs.length
  | [] => rfl
  | p :: r => by rw [PV.rmL, List.length_cons, rmL_len, List.length_cons]
theorem RepV.rm {C C' : Cx} {T T' : List (Nat × Tok)} {U V U' V' : Nat → Prop} {f g : Nat → Nat} (hS : SLe C.S C'.S) (hU : ∀ i, U i → C'.ρ (f i) = C.ρ i ∧ U' (f i)) (hV : ∀ k, V k → C'.τ (g k) = C.τ k ∧ V' (g k) ∧ ∀ t, lkp T' (g k) = some t → lkp T k = some t) {v : Value} {p : PV} (r : RepV C T U V v p) :
    RepV C' T' U' V' v (p.rm f g) := by
  induction r with
  | @frz v p h =>
    have := h.mono hS
    cases h with
    | val h => exact .frz this
    | sl => exact .frz this
  | row h hk ht =>
    obtain ⟨h1, h2, h3⟩ := hV _ hk
    refine .row (h.mono hS) h2 (fun t h' => ?_)
    obtain ⟨g1, g2, g3⟩ := ht t (h3 t h')
    exact ⟨g1, g2, fun e => by rw [h1]; exact g3 e⟩
  | @ptr id off h => rw [← (hU _ h).1]; exact .ptr (hU _ h).2
  | @ms id lo n cap h hc => rw [← (hU _ h).1]; exact .ms (hU _ h).2 hc
  | fp h => exact .fp (fun i p hp => by obtain ⟨u, h1, h2⟩ := h i p hp; exact ⟨u, hS _ _ _ h1, h2.mono hS⟩)
  | agg hs h h1 ih =>
    refine .agg (by rw [rmL_len]; exact hs) (fun i v p hv hp => ?_) h1
    rw [rmL_get] at hp
    obtain ⟨q, hq, rfl⟩ := Option.map_eq_some_iff.1 hp
    exact ih i v q hv hq
  | tup hs h ih =>
    refine .tup (by rw [rmL_len]; exact hs) (fun i v p hv hp => ?_)
    rw [rmL_get] at hp
    obtain ⟨q, hq, rfl⟩ := Option.map_eq_some_iff.1 hp
    exact ih i v q hv hq
  | fn hs h ih =>
    refine .fn (by rw [rmL_len]; exact hs) (fun i v p hv hp => ?_)
    rw [rmL_get] at hp
    obtain ⟨q, hq, rfl⟩ := Option.map_eq_some_iff.1 hp
    exact ih i v q hv hq
  | iface h ih => exact .iface ih
mutual
theorem rn_frz {f : Nat → Nat} {b : Nat} : ∀ (p : PV), p.lt 0 0 = true → p.rn f b = p
  | .val v, _ => rfl
  | .sl xs, _ => rfl
  | .row k xs, h => by simp [PV.lt] at h
  | .ptr i o, h => by simp [PV.lt] at h
  | .ms i lo n c, h => by simp [PV.lt] at h
  | .fp cs, _ => rfl
  | .agg cs, h => by simp only [PV.lt] at h; rw [PV.rn, rnL_frz cs h]
  | .tup cs, h => by simp only [PV.lt] at h; rw [PV.rn, rnL_frz cs h]
  | .fn h' cs, h => by simp only [PV.lt] at h; rw [PV.rn, rnL_frz cs h]
  | .iface t p, h => by simp only [PV.lt] at h; rw [PV.rn, rn_frz p h]
theorem rnL_frz {f : Nat → Nat} {b : Nat} : ∀ (l : List PV), PV.ltL 0 0 l = true → PV.rnL f b l = l
  | [], _ => rfl
  | p :: r, h => by
    simp only [PV.ltL, Bool.and_eq_true] at h
    rw [PV.rnL, rn_frz p h.1, rnL_frz r h.2]
end
theorem OkI.mono' {P : Program} {f : FuncId} {args : List PV} {st : PS} {Q Q' : PV → PS → Prop} (h : OkI P f args st Q) (k : ∀ r s, Q r s → Q' r s) : OkI P f args st Q' :=
  ⟨h.1, fun own S0 w0 w C vals R hn hr => (h.2 own S0 w0 w C vals R hn hr).mono (by
    rintro e w' ⟨r, s, v, C', hq, rest⟩
    exact ⟨r, s, v, C', k r s hq, rest⟩)⟩
section
variable {P : Program}
/-- A result, with rows read as what they hold. -/
def frR (p : PV) : PV := (fzA p).getD p
def outF (P : Program) (fn : Func) (L : Nat × Nat) (Q : PV → PS → Prop) : Exit → PS → Prop
  | .normal, st => bindO (resAll P st fn.results.toList) fun l => ∃ st', Q (packR (l.map frR)) st' ∧ Weak L { st with env := [(0, packR (l.map frR))] } { st' with env := [(0, packR (l.map frR))] }
  | .ret, st => bindO (resAll P st fn.results.toList) fun l => ∃ st', Q (packR (l.map frR)) st' ∧ Weak L { st with env := [(0, packR (l.map frR))] } { st' with env := [(0, packR (l.map frR))] }
  | _, _ => False
end
section
variable {P : Program} {own : Nat → Prop} {S0 : Base} {w0 w : World} {C : Cx} {U V : Nat → Prop} {st : PS}
/-- An object that isn't written any more. -/
theorem Rel.freezeBox (R : Rel own S0 w0 C U V st w) {i : Nat} {T : TypeId} {cs ds : List PV} (ho : lkp st.heap i = some (.box T cs)) (hf : fzL cs = some ds) :
    ∃ S1, Rel own S0 w0 { C with S := S1 } U V { st with heap := dropH [i] st.heap } w ∧ Ext C { C with S := S1 } st.toks st.toks U V U V ∧
      ∀ (off : Nat) (j : Nat) (p : PV), (ds.drop off)[j]? = some p → ∃ u, S1 (C.ρ i) (off + j) = some u ∧ RepF S1 u p := by
  let S1 : Cells := fun b o => if b = C.ρ i then w.cell? ⟨b, o, none⟩ else C.S b o
  obtain ⟨vs, hb, hs, hv⟩ := R.box i T cs ho
  obtain ⟨k1, k2, k3, k4⟩ := R.hown i _ ho
  have le : SLe C.S S1 := fun b o v h => by
    show (if _ then _ else _) = _
    by_cases e : b = C.ρ i
    · rw [if_pos e]; exact R.stable b o v h
    · rw [if_neg e]; exact h
  have out : ∀ b o, b ≠ C.ρ i → S1 b o = C.S b o := fun b o h => if_neg h
  have X : Ext C { C with S := S1 } st.toks st.toks U V U V := ⟨le, fun _ _ => rfl, fun k t _ h => ⟨t, h, Nat.le_refl _, rfl, fun _ => rfl⟩, fun _ h => h, fun _ h => h⟩
  have hd : ∀ j o, lkp (dropH [i] st.heap) j = some o → j ≠ i ∧ lkp st.heap j = some o := fun j o h => by
    rw [dropH_lkp] at h
    split at h
    · cases h
    · rename_i hn; exact ⟨by simpa using hn, h⟩
  have apart : ∀ j o, lkp (dropH [i] st.heap) j = some o → C.ρ j ≠ C.ρ i := fun j o h e => (hd j o h).1 (R.hinj j i o _ (hd j o h).2 ho e)
  refine ⟨S1, ⟨R.frame, fun b o v h => ?_, fun j T' cs' h => ?_, fun j s pos h => R.iter j s pos (hd j _ h).2, fun j o h => ?_, fun a b oa ob h1 h2 => R.hinj a b oa ob (hd _ _ h1).2 (hd _ _ h2).2, fun k t h => ?_, fun j oj k t h1 h2 => R.tbox j oj k t (hd _ _ h1).2 h2, R.tinj, fun b o v h => ?_, fun b o v h => le _ _ _ (R.sold b o v h), R.base.trans X, R.glob⟩, X, fun off j p hp => ?_⟩
  · replace h : (if b = C.ρ i then w.cell? ⟨b, o, none⟩ else C.S b o) = some v := h
    split at h
    · exact h
    · exact R.stable b o v h
  · obtain ⟨us, h1, h2, h3⟩ := R.box j T' cs' (hd j _ h).2
    exact ⟨us, h1, h2, fun a v p hv hp => ⟨(h3 a v p hv hp).1, (h3 a v p hv hp).2.ext X⟩⟩
  · obtain ⟨h1, h2, h3, h4⟩ := R.hown j o (hd j o h).2
    exact ⟨h1, h2, h3, fun o' => (out _ _ (apart j o h)).trans (h4 o')⟩
  · obtain ⟨h1, h2, h3, h4, h5, h6⟩ := R.tok k t h
    exact ⟨h1, h2, h3, h4, h5, fun o ho' => (out _ _ (fun e => R.tbox i _ k t ho h e.symm)).trans (h6 o ho')⟩
  · replace h : (if b = C.ρ i then w.cell? ⟨b, o, none⟩ else C.S b o) = some v := h
    split at h
    · rename_i e; rw [e]; exact .inr k3
    · exact R.snew b o v h
  · rw [List.getElem?_drop] at hp
    obtain ⟨e1, e2⟩ := fzL_get hf
    have hi : off + j < cs.length := by rw [e1]; exact (List.getElem?_eq_some_iff.1 hp).1
    have hc := List.getElem?_eq_getElem hi
    have hvi : vs[off + j]? = some (vs[off + j]'(by omega)) := Array.getElem?_eq_getElem (by omega)
    refine ⟨_, ?_, (fz_rep (C := C) (e2 _ _ p hc hp) (hv _ _ _ hvi hc).2).mono le⟩
    show (if _ then _ else _) = _
    rw [if_pos rfl, cell_of_row w (C.ρ i) (off + j) vs T (0, 0) hb]
    exact hvi
mutual
/-- A pointer to what isn't written any more. -/
def PV.pf (i : Nat) (ds : List PV) : PV → PV
  | .val v => .val v
  | .sl xs => .sl xs
  | .row k xs => .row k xs
  | .ptr j o => if j = i then .fp (ds.drop o) else .ptr j o
  | .ms i lo n c => .ms i lo n c
  | .fp cs => .fp cs
  | .agg cs => .agg (PV.pfL i ds cs)
  | .tup cs => .tup (PV.pfL i ds cs)
  | .fn h cs => .fn h (PV.pfL i ds cs)
  | .iface t p => .iface t (PV.pf i ds p)
def PV.pfL (i : Nat) (ds : List PV) : List PV → List PV
  | [] => []
  | p :: r => PV.pf i ds p :: PV.pfL i ds r
end
theorem pfL_get {i : Nat} {ds : List PV} : ∀ {cs : List PV} (j : Nat), (PV.pfL i ds cs)[j]? = (cs[j]?).map (PV.pf i ds)
  | [], j => by simp [PV.pfL]
  | p :: r, 0 => by simp [PV.pfL]
  | p :: r, j + 1 => by simp [PV.pfL, pfL_get j]
theorem pfL_len {i : Nat} {ds : List PV} : ∀ {cs : List PV}, (PV.pfL i ds cs).length = cs.length
  | [] => rfl
  | p :: r => by rw [PV.pfL, List.length_cons, pfL_len, List.length_cons]
theorem RepV.pf {T : List (Nat × Tok)} {i : Nat} {ds : List PV} (h : ∀ (off : Nat) (j : Nat) (p : PV), (ds.drop off)[j]? = some p → ∃ u, C.S (C.ρ i) (off + j) = some u ∧ RepF C.S u p) {v : Value} {p : PV} (r : RepV C T U V v p) : RepV C T U V v (p.pf i ds) := by
  induction r with
  | @frz v p h' =>
    cases h' with
    | val h1 => exact .frz (.val h1)
    | sl f a b c d e => exact .frz (.sl f a b c d e)
  | row h hk ht => exact .row h hk ht
  | @ptr id off hU =>
    simp only [PV.pf]
    split
    · rename_i e
      subst e
      exact .fp (h off)
    · exact .ptr hU
  | ms h hc => exact .ms h hc
  | fp h => exact .fp h
  | agg hs h h1 ih =>
    refine .agg (by rw [pfL_len]; exact hs) (fun i v p hv hp => ?_) h1
    rw [pfL_get] at hp
    obtain ⟨q, hq, rfl⟩ := Option.map_eq_some_iff.1 hp
    exact ih i v q hv hq
  | tup hs h ih =>
    refine .tup (by rw [pfL_len]; exact hs) (fun i v p hv hp => ?_)
    rw [pfL_get] at hp
    obtain ⟨q, hq, rfl⟩ := Option.map_eq_some_iff.1 hp
    exact ih i v q hv hq
  | fn hs h ih =>
    refine .fn (by rw [pfL_len]; exact hs) (fun i v p hv hp => ?_)
    rw [pfL_get] at hp
    obtain ⟨q, hq, rfl⟩ := Option.map_eq_some_iff.1 hp
    exact ih i v q hv hq
  | iface h ih => exact .iface ih
/-- ████ A call by whose time an object isn't written any more. -/
theorem OkI.freeze1 {P : Program} {g : FuncId} {ags : List PV} {st : PS} {Q : PV → PS → Prop} {i : Nat} {T : TypeId} {cs ds : List PV} (ho : lkp st.heap i = some (.box T cs)) (hf : fzL cs = some ds) (ok : OkI P g (PV.pfL i ds ags) { st with heap := dropH [i] st.heap } Q) : OkI P g ags st Q := by
  refine ⟨ok.1, fun own S0 w0 w C vals R hn hr => ?_⟩
  obtain ⟨S1, R1, X, h⟩ := R.freezeBox ho hf
  refine (ok.2 own S0 w0 w { C with S := S1 } vals R1 (by rw [pfL_len]; exact hn) (fun j v p hv hp => ?_)).mono ?_
  · rw [pfL_get] at hp
    obtain ⟨q, hq, rfl⟩ := Option.map_eq_some_iff.1 hp
    exact RepV.pf (C := { C with S := S1 }) h ((hr j v q hv hq).ext X)
  · rintro e w' ⟨r, st', v, C', h1, h2, h3, h4, h5⟩
    exact ⟨r, st', v, C', h1, h2, h3, X.trans h4, h5⟩
end
/-! Several regions that are cut. -/
def bar2 (r k : Nat) (b : Nat → Option Nat) : Nat → Option Nat := fun i => if i = r then some k else b i
section
variable {P : Program} {l0 : Nat × Nat} {st : PS} {Q : Exit → PS → Prop}
theorem p_skip_bar {id r k : Nat} {b : Nat → Option Nat} {ops : Array Oper} {dr : Bool} (h : id ≠ r) : pwp P ⟨l0, bar2 r k b⟩ (.region id ops dr) st Q = pwp P ⟨l0, b⟩ (.region id ops dr) st Q := by
  have : bar2 r k b id = b id := if_neg h
  cases dr <;> simp only [pwp, this]
theorem p_sem2 {r k : Nat} {b : Nat → Option Nat} {l : List Oper} (h : evS st fun st => evL (l.take k) fun l1 => dopsS P l.toArray 0 l1 st fun s => evS s fun s => dopsX P l.toArray (l.drop k) s (Q .normal)) : pwp P ⟨l0, bar2 r k b⟩ (.region r l.toArray false) st Q := by
  have h1 : bar2 r k b r = some k := if_pos rfl
  simp only [pwp, h1]
  exact h
end
attribute [go_sem ↓] p_skip_bar
attribute [go_sem] PV.pf PV.pfL frR outF Option.getD_some Option.getD_none List.map_cons List.map_nil
attribute [go_sem] PV.rm PV.rmL PObj.rm rmH rmK dropK
end Go.Pw

end
section
/-
  A value's copy taken at any state; what is set at a path: the program's.
-/
open Go Go.Proofs Go.Pw Go.RowKit
namespace Go.Proofs.YtahgjolokkfhjaaDoor
set_option maxRecDepth 4000
set_option linter.unusedVariables false
set_option linter.unusedSimpArgs false
mutual
theorem sh_frz {a b : Nat} : ∀ (p : PV), p.lt 0 0 = true → p.sh a b = p
  | .val v, _ => rfl
  | .sl xs, _ => rfl
  | .row k xs, h => by simp [PV.lt] at h
  | .ptr i o, h => by simp [PV.lt] at h
  | .ms i lo n c, h => by simp [PV.lt] at h
  | .fp cs, _ => rfl
  | .agg cs, h => by simp only [PV.lt] at h; rw [PV.sh, shL_frz cs h]
  | .tup cs, h => by simp only [PV.lt] at h; rw [PV.sh, shL_frz cs h]
  | .fn h' cs, h => by simp only [PV.lt] at h; rw [PV.sh, shL_frz cs h]
  | .iface t p, h => by simp only [PV.lt] at h; rw [PV.sh, sh_frz p h]
theorem shL_frz {a b : Nat} : ∀ (l : List PV), PV.ltL 0 0 l = true → PV.shL a b l = l
  | [], _ => rfl
  | p :: r, h => by
    simp only [PV.ltL, Bool.and_eq_true] at h
    rw [PV.shL, sh_frz p h.1, shL_frz r h.2]
end
/-- What a copy leaves: its items and keys in memory of its own. -/
def CopyS (v : V) (st : PS) (r : PV) (st' : PS) : Prop := ∃ iI cI rI iK cK rK nx nt, st.nx ≤ iI ∧ st.nx ≤ iK ∧ iI ≠ iK ∧ iI < nx ∧ iK < nx ∧ st.nx ≤ nx ∧ st.nt ≤ nt ∧ v.items.length ≤ cI ∧ cI ≤ maxLen ∧ v.keys.length ≤ cK ∧ cK ≤ maxLen ∧ rI.length = (cI - v.items.length) * 6 ∧ rK.length = cK - v.keys.length ∧
  (∀ a b, PV.ltL a b rI = true) ∧ (∀ a b, PV.ltL a b rK = true) ∧ r = .agg [vI v.kind, vB v.b, vI v.n, vS v.s, msV iI cI v.items, msT iK cK v.keys] ∧ st' = ⟨st.env, hpV iI rI v.items ++ (hpT iK rK v.keys ++ st.heap), st.toks, nx, nt⟩
theorem msV_sh (a b i c : Nat) (l : List V) : (msV i c l).sh a b = msV (i + a) c l := by cases l <;> rfl
theorem msT_sh (a b i c : Nat) (l : List ByteArray) : (msT i c l).sh a b = msT (i + a) c l := by cases l <;> rfl
theorem hpV_sh (a b i : Nat) (r : List PV) (l : List V) (h : PV.ltL 0 0 r = true) : shH a b (hpV i r l) = hpV (i + a) r l := by
  cases l with
  | nil => rfl
  | cons x xs =>
    simp only [hpV, shH, PObj.sh]
    rw [shL_frz _ (by rw [ltL_app, ltL_flatV, h]; rfl)]
theorem hpT_sh (a b i : Nat) (r : List PV) (l : List ByteArray) (h : PV.ltL 0 0 r = true) : shH a b (hpT i r l) = hpT (i + a) r l := by
  cases l with
  | nil => rfl
  | cons x xs =>
    simp only [hpT, shH, PObj.sh]
    rw [shL_frz _ (by rw [ltL_app, ltL_flatT, h]; rfl)]
theorem shH_app (a b : Nat) : ∀ (l m : List (Nat × PObj)), shH a b (l ++ m) = shH a b l ++ shH a b m
  | [], m => rfl
  | e :: r, m => by rw [List.cons_append, shH, shH, shH_app a b r m, List.cons_append]
theorem copy_at (v : V) (hv : szV v ≤ 1000000) (st : PS) : OkI Tryd.prog 38 [.agg (cellsV v)] st (CopyS v st) := by
  refine OkI.mono' (OkI.ofH (copy_H v hv) (as' := [.agg (cellsV v)]) (by simp only [cellsV, fzAs, fzA, fzL, fz, Option.map])) ?_
  rintro r st' ⟨r0, s0, ⟨iI, cI, rI, iK, cK, rK, nx, nt, h1, h2, h3, h4, h5, h6, h7, h8, h9, h10, h11, rfl, rfl⟩, rfl, rfl⟩
  refine ⟨iI + st.nx, cI, rI, iK + st.nx, cK, rK, nx + st.nx, nt + st.nt, by omega, by omega, by omega, by omega, by omega, by omega, by omega, h4, h5, h6, h7, h8, h9, h10, h11, ?_, ?_⟩
  · simp only [PV.sh, PV.shL, msV_sh, msT_sh]
  · simp only [shH_app, hpV_sh _ _ _ _ _ (h10 0 0), hpT_sh _ _ _ _ _ (h11 0 0), shK, List.append_assoc, List.nil_append]
/-- A value with another item at a place. -/
def V.at (v : V) (i : Nat) (u : V) : V := .mk v.kind v.b v.n v.s (v.items.set i u) v.keys
/-- What is set at a path. -/
def setV : V → List ByteArray → V → Option V
  | v, [], w => some w
  | v, t :: r, w => if plc v t < 0 then none else (setV (v.items.getD (plc v t).toNat default) r w).map (v.at (plc v t).toNat)
theorem set_flatr {l : List V} {r : List PV} {i : Nat} (h : i < l.length) (v : V) : (flatV l ++ r).take (i * 6) ++ cellsV v ++ (flatV l ++ r).drop (i * 6 + 6) = flatV (l.set i v) ++ r := by
  have h1 : i * 6 + 6 ≤ (flatV l).length := by rw [flatV_len]; omega
  rw [List.take_append_of_le_length (by omega), List.drop_append_of_le_length h1, ← List.append_assoc, set_flat h v]

theorem cells_at (v : V) (i : Nat) (u : V) : cellsV (v.at i u) = [vI v.kind, vB v.b, vI v.n, vS v.s, .sl (encV (v.items.set i u)), .sl (encT v.keys)] := rfl
theorem encT_get0 (t : ByteArray) (r : List ByteArray) : (encT (t :: r)).getD 0 [] = [vS t] := rfl
theorem hpV_ne {i : Nat} {r : List PV} {l : List V} (h : l ≠ []) : hpV i r l = [(i, .box 32 (flatV l ++ r))] := by cases l with | nil => exact absurd rfl h | cons x xs => rfl
theorem msV_ne {i c : Nat} {l : List V} (h : l ≠ []) : msV i c l = .ms i 0 l.length c := by cases l with | nil => exact absurd rfl h | cons x xs => rfl
theorem msT_lt (a b i c : Nat) (h : i < a) (l : List ByteArray) : (msT i c l).lt a b = true := by cases l <;> simp [msT, PV.lt, h]
theorem msT_rn (f : Nat → Nat) (b i c : Nat) (l : List ByteArray) : (msT i c l).rn f b = msT (f i) c l := by cases l <;> rfl
theorem flatV_rn (f : Nat → Nat) (b : Nat) (l : List V) (r : List PV) (h : PV.ltL 0 0 r = true) : PV.rnL f b (flatV l ++ r) = flatV l ++ r := by
  rw [rnL_frz _ (by rw [ltL_app, ltL_flatV, h]; rfl)]
theorem hpT_rn (f : Nat → Nat) (b i : Nat) (r : List PV) (l : List ByteArray) (h : PV.ltL 0 0 r = true) : rnH f b (hpT i r l) = hpT (f i) r l := by
  cases l with
  | nil => rfl
  | cons y q =>
    simp only [hpT, rnH, PObj.rn]
    rw [rnL_frz _ (by rw [ltL_app, ltL_flatT, h]; rfl)]
set_option maxHeartbeats 4000000 in
/-- What is set at a place of what is held. -/
theorem setf_ok (w : V) (hw : szV w ≤ 1000000) (k : Int) (b : Bool) (n : Int) (s : ByteArray) (l : List V) (ks : List ByteArray) (cI cK : Nat) (rI rK : List PV) (i : Nat) (hi : i < l.length) (hl : l.length ≤ 1000000) (hr : ∀ a b, PV.ltL a b rI = true) (hk : ∀ a b, PV.ltL a b rK = true) :
    OkI Tryd.prog 45 [.ptr 0 0, vI i, .fp (cellsV w)] ⟨[], (0, .box 32 [vI k, vB b, vI n, vS s, .ms 1 0 l.length cI, msT 2 cK ks]) :: (1, .box 32 (flatV l ++ rI)) :: hpT 2 rK ks, [], 3, 0⟩
      (fun r st' => r = .tup [] ∧ st' = ⟨[], (0, .box 32 [vI k, vB b, vI n, vS s, .ms 1 0 l.length cI, msT 2 cK ks]) :: (1, .box 32 (flatV (l.set i w) ++ rI)) :: hpT 2 rK ks, [], 3, 0⟩) := by
  have c1 := copy_ok w hw
  simp only [cellsV] at c1
  have e := set_flatr (r := rI) hi w
  simp only [cellsV] at e
  have h2 := msT_lt 3 0 2 cK (by decide) ks
  have hh : ∀ e ∈ hpT 2 rK ks, e.1 = 2 ∧ lkp (hpT 2 rK ks) e.1 = some e.2 ∧ e.2.lt 3 0 = true := fun e he => by
    cases ks with
    | nil => cases he
    | cons y q =>
      simp only [hpT, List.mem_singleton] at he
      subst he
      exact ⟨rfl, by simp [hpT, lkp], by simp only [PObj.lt, ltL_app, ltL_flatT, hk, Bool.and_self]⟩
  refine OkI.of_pwp (by kernel_rfl) Tryd.func45 rfl (by kernel_rfl) (by kernel_rfl) ?_
  simp (implicitDefEqProofs := false) (disch := omega) only [go_sem, simprocAttr, go_sem, Nat.le_refl, Int.toNat_natCast, Int.toNat_zero, Int.toNat_one, str_eq, cellsV, decide_true, Bool.not_true, Bool.not_false, Tryd.results45, set_flatr, List.length_append, flatV_len, List.append_assoc]
  with_reducible refine CallOk.of c1 rfl ?_
  simp (implicitDefEqProofs := false) (disch := omega) only [go_sem, simprocAttr, go_sem, Nat.le_refl, Int.toNat_natCast, Int.toNat_zero, Int.toNat_one, str_eq, cellsV, decide_true, Bool.not_true, Bool.not_false, Tryd.results45, set_flatr, List.length_append, flatV_len, List.append_assoc, e]
  refine ⟨_, rfl, ?_⟩
  refine ⟨?_, ?_, ?_, ?_, ?_, ?_, ?_⟩
  rotate_left
  · intro e he
    rcases List.mem_cons.1 he with rfl | he
    · exact ⟨by simp [lkp, bindO, FrzO.refl], by simp, by simp [PObj.lt, PV.ltL, PV.lt, h2]⟩
    rcases List.mem_cons.1 he with rfl | he
    · exact ⟨by simp [lkp, bindO, FrzO.refl], by simp, by simp only [PObj.lt, ltL_app, ltL_flatV, hr, Bool.and_self]⟩
    · obtain ⟨g1, g2, g3⟩ := hh e he
      refine ⟨?_, by rw [g1]; simp, g3⟩
      rw [g1] at g2
      simp only [lkp, g1, Nat.reduceEqDiff, if_false]
      rw [hold_eq, g2, b_some]
      exact FrzO.refl _
  all_goals simp [PV.lt, PV.ltL, lkp, Frz, FrzL, Frz1, bindO]
theorem frame_heap {a b c N M : Nat} {o0 o1 p0 p1 : PObj} {rK : List PV} {ks : List ByteArray} {T : List (Nat × PObj)} (hr : PV.ltL 0 0 rK = true) (hT : ∀ e ∈ T, e.1 ≠ a ∧ e.1 ≠ b ∧ e.1 ≠ c) :
    rnH (rnF [a, b, c] N) M ((0, o0) :: (1, o1) :: hpT 2 rK ks) ++ dropH [a, b, c] ((a, p0) :: (b, p1) :: (hpT c rK ks ++ T)) = (a, o0.rn (rnF [a, b, c] N) M) :: (b, o1.rn (rnF [a, b, c] N) M) :: (hpT c rK ks ++ T) := by
  have hd : ∀ T : List (Nat × PObj), (∀ e ∈ T, e.1 ≠ a ∧ e.1 ≠ b ∧ e.1 ≠ c) → dropH [a, b, c] T = T := by
    intro T
    induction T with
    | nil => intro _; rfl
    | cons e r ih =>
      intro h
      have h1 := h e (by simp)
      rw [dropH, if_neg (by rw [inL_iff]; simp [h1.1, h1.2.1, h1.2.2]), ih (fun x hx => h x (by simp [hx]))]
  have hk : ∀ T, dropH [a, b, c] (hpT c rK ks ++ T) = dropH [a, b, c] T := fun T => by
    cases ks with
    | nil => rfl
    | cons y q => simp [hpT, dropH, inL]
  have ha : ∀ p T, dropH [a, b, c] ((a, p) :: T) = dropH [a, b, c] T := fun p T => by simp [dropH, inL]
  have hb : ∀ p T, dropH [a, b, c] ((b, p) :: T) = dropH [a, b, c] T := fun p T => by simp [dropH, inL]
  rw [ha, hb, hk, hd T hT]
  simp only [rnH, hpT_rn _ _ _ _ _ hr, List.cons_append, rnF, List.getElem?_cons_zero, List.getElem?_cons_succ]
theorem hpT_lkp {i j : Nat} {r : List PV} {l : List ByteArray} {T : List (Nat × PObj)} (h : j ≠ i) : lkp (hpT i r l ++ T) j = lkp T j := by cases l <;> simp [hpT, lkp, h]
theorem hpT_upd {i j : Nat} {r : List PV} {l : List ByteArray} {T : List (Nat × PObj)} {o : PObj} (h : j ≠ i) : upd (hpT i r l ++ T) j o = hpT i r l ++ upd T j o := by cases l <;> simp [hpT, upd, h]
theorem fzH_i (P : Program) (h : List (Nat × PObj)) (k : IntKind) (n : Int) : fzH P h (.val (.int k n)) = some (.val (.int k n)) := rfl
theorem fzH_b (P : Program) (h : List (Nat × PObj)) (b : Bool) : fzH P h (.val (.bool b)) = some (.val (.bool b)) := rfl
theorem fzH_s (P : Program) (h : List (Nat × PObj)) (s : ByteArray) : fzH P h (.val (.string s)) = some (.val (.string s)) := rfl
theorem fzH_n (P : Program) (h : List (Nat × PObj)) : fzH P h (.val (.slice none 0 0)) = some (.sl []) := rfl
theorem changed_no (w : V) (t : ByteArray) (r : List ByteArray) (v : V) (gv : GV v) (ht : t.size ≤ 1000000) (hn : plc v t < 0) : Ok Tryd.prog 44 [.agg (cellsV v), .sl (encT (t :: r)), .fn 45 [.fp (cellsV w)]] (.tup [.agg (cellsV vZero), vI 12]) := by
  have c0 := place_ok v t gv.2 gv.sort ht
  rw [vz_cells]
  simp only [cellsV] at c0
  refine Ok.of_pwpH (bar := noBar) (by kernel_rfl) Tryd.func44 rfl (by kernel_rfl) (by kernel_rfl) ?_
  simp (implicitDefEqProofs := false) (disch := omega) only [go_sem, simprocAttr, go_sem, Nat.le_refl, Int.toNat_natCast, Int.toNat_zero, Int.toNat_one, str_eq, cellsV, decide_true, Bool.not_true, Bool.not_false, hpT_lkp, hpT_upd, outH, fzHAs, fzHA, fzHL, fzH_i, fzH_b, fzH_s, fzH_n, cells_at, encT_get0, encT_drop, List.getD_cons_zero, List.drop_succ_cons, List.drop_zero, encT_len, List.length_cons, Tryd.results44]
  with_reducible refine CallOk.of c0 rfl ?_
  simp (implicitDefEqProofs := false) (disch := omega) only [go_sem, simprocAttr, go_sem, Nat.le_refl, Int.toNat_natCast, Int.toNat_zero, Int.toNat_one, str_eq, cellsV, decide_true, Bool.not_true, Bool.not_false, hpT_lkp, hpT_upd, outH, fzHAs, fzHA, fzHL, fzH_i, fzH_b, fzH_s, fzH_n, cells_at, encT_get0, encT_drop, List.getD_cons_zero, List.drop_succ_cons, List.drop_zero, encT_len, List.length_cons, Tryd.results44]
theorem fz_setH {ii iK cI cK : Nat} {rI rK : List PV} {a b : Nat × PObj} {H : List (Nat × PObj)} (l : List V) (ks : List ByteArray) (h1 : ii ≠ a.1) (h2 : iK ≠ a.1) (h3 : iK ≠ ii) :
    fzH Tryd.prog (a :: (ii, .box 32 (flatV l ++ rI)) :: (hpT iK rK ks ++ H)) (.ms ii 0 l.length cI) = some (.sl (encV l)) ∧ fzH Tryd.prog (a :: (ii, .box 32 (flatV l ++ rI)) :: (hpT iK rK ks ++ H)) (msT iK cK ks) = some (.sl (encT ks)) := by
  refine ⟨?_, ?_⟩
  · simp only [fzH, lkp, if_neg h1, if_true, show sizeOf? Tryd.prog 32 = some 6 from rfl, List.drop_zero]
    rw [if_pos ⟨by decide, by rw [List.length_append, flatV_len]; omega⟩, chunksV, fz_encV]; rfl
  · cases ks with
    | nil => rfl
    | cons y q =>
      simp only [msT, hpT, fzH, lkp, if_neg h2, if_neg h3, List.cons_append, if_true, show sizeOf? Tryd.prog 9 = some 1 from rfl, List.drop_zero]
      rw [if_pos ⟨by decide, by rw [List.length_append, flatT_len]; omega⟩, chunksT, fz_encT]; rfl
theorem hpT_self {i : Nat} {r : List PV} {l : List ByteArray} {T : List (Nat × PObj)} (h : l ≠ []) : lkp (hpT i r l ++ T) i = some (.box 9 (flatT l ++ r)) := by cases l with | nil => exact absurd rfl h | cons y q => simp [hpT, lkp]
theorem fz_lk {ii iK cI cK : Nat} {rI rK : List PV} {H : List (Nat × PObj)} {l : List V} {ks : List ByteArray} (h1 : lkp H ii = some (.box 32 (flatV l ++ rI))) (h2 : ks ≠ [] → lkp H iK = some (.box 9 (flatT ks ++ rK))) :
    fzH Tryd.prog H (.ms ii 0 l.length cI) = some (.sl (encV l)) ∧ fzH Tryd.prog H (msT iK cK ks) = some (.sl (encT ks)) := by
  refine ⟨?_, ?_⟩
  · simp only [fzH, h1, show sizeOf? Tryd.prog 32 = some 6 from rfl, List.drop_zero]
    rw [if_pos ⟨by decide, by rw [List.length_append, flatV_len]; omega⟩, chunksV, fz_encV]; rfl
  · cases ks with
    | nil => rfl
    | cons y q =>
      simp only [msT, fzH, h2 (by simp), show sizeOf? Tryd.prog 9 = some 1 from rfl, List.drop_zero]
      rw [if_pos ⟨by decide, by rw [List.length_append, flatT_len]; omega⟩, chunksT, fz_encT]; rfl
set_option maxHeartbeats 8000000 in
/-- What is done with the item that one step leads to. -/
theorem changed_one (w : V) (hw : szV w ≤ 1000000) (t : ByteArray) (v : V) (gv : GV v) (ht : t.size ≤ 1000000) : Ok Tryd.prog 44 [.agg (cellsV v), .sl (encT [t]), .fn 45 [.fp (cellsV w)]] (resG (setV v [t] w)) := by
  by_cases hn : plc v t < 0
  · rw [setV, if_pos hn]
    exact changed_no w t [] v gv ht hn
  have hlt := gv.at (t := t) hn
  have c0 := place_ok v t gv.2 gv.sort ht
  rw [setV, if_neg hn, setV]
  simp only [cellsV] at c0
  refine Ok.of_pwpH (bar := noBar) (by kernel_rfl) Tryd.func44 rfl (by kernel_rfl) (by kernel_rfl) ?_
  show pwp _ _ _ _ (outH _ _ (resG (some (v.at (plc v t).toNat w))))
  unfold resG
  generalize plc v t = a at *
  obtain ⟨i, rfl⟩ : ∃ i : Nat, a = i := ⟨a.toNat, by omega⟩
  rw [Int.toNat_natCast] at *
  simp (implicitDefEqProofs := false) (disch := omega) only [go_sem, simprocAttr, go_sem, Nat.le_refl, Int.toNat_natCast, Int.toNat_zero, Int.toNat_one, str_eq, cellsV, decide_true, Bool.not_true, Bool.not_false, hpT_lkp, hpT_upd, outH, fzHAs, fzHA, fzHL, fzH_i, fzH_b, fzH_s, fzH_n, cells_at, encT_get0, encT_drop, List.getD_cons_zero, List.drop_succ_cons, List.drop_zero, encT_len, List.length_cons, Tryd.results44]
  with_reducible refine CallOk.of c0 rfl ?_
  simp (implicitDefEqProofs := false) (disch := omega) only [go_sem, simprocAttr, go_sem, Nat.le_refl, Int.toNat_natCast, Int.toNat_zero, Int.toNat_one, str_eq, cellsV, decide_true, Bool.not_true, Bool.not_false, hpT_lkp, hpT_upd, outH, fzHAs, fzHA, fzHL, fzH_i, fzH_b, fzH_s, fzH_n, cells_at, encT_get0, encT_drop, List.getD_cons_zero, List.drop_succ_cons, List.drop_zero, encT_len, List.length_cons, Tryd.results44]
  refine CallOk.ofI (copy_at v gv.2 ⟨[], _, _, _, _⟩) rfl rfl rfl rfl ?_
  rintro r st1 ⟨iI, cI, rI, iK, cK, rK, nx, nt, g1, g2, g3, g4, g5, g6, g7, g8, g9, g10, g11, g12, g13, g14, g15, rfl, rfl⟩
  simp only at g1 g2 g6 g7
  have hne : v.items ≠ [] := fun e => by rw [e] at hlt; simp at hlt
  rw [hpV_ne hne, msV_ne hne]
  simp (implicitDefEqProofs := false) (disch := omega) only [go_sem, simprocAttr, go_sem, Nat.le_refl, Int.toNat_natCast, Int.toNat_zero, Int.toNat_one, str_eq, cellsV, decide_true, Bool.not_true, Bool.not_false, hpT_lkp, hpT_upd, outH, fzHAs, fzHA, fzHL, fzH_i, fzH_b, fzH_s, fzH_n, cells_at, encT_get0, encT_drop, List.getD_cons_zero, List.drop_succ_cons, List.drop_zero, encT_len, List.length_cons, Tryd.results44]
  have hb := (V.small gv.2).1
  have c3 := OkI.frame (st := ⟨[], (nx + 2, .box 32 [vI v.kind, vB v.b, vI v.n, vS v.s, .ms iI 0 v.items.length cI, msT iK cK v.keys]) :: (iI, .box 32 (flatV v.items ++ rI)) :: (hpT iK rK v.keys ++ [(1, .box 32 [vI 0, vB false, vI 0, vS ByteArray.empty, vNil, vNil]), (0, .box 32 (cellsV v))]), [], nx + 4 + 3 + 2, nt + 4 + 3 + 2⟩) [nx + 2, iI, iK] (setf_ok w hw v.kind v.b v.n v.s v.items v.keys cI cK rI rK i hlt hb g14 g15) (by simp; omega) (fun j hj => by simp at hj; simp only; omega) (fun e he => by
    rcases List.mem_cons.1 he with rfl | he
    · refine ⟨by simp, by simp [PObj.lt, PV.ltL, PV.lt, msT_lt], ?_⟩
      simp only [rnF, List.getElem?_cons_zero, List.getElem?_cons_succ, PObj.rn, PV.rnL, PV.rn, msT_rn, lkp, if_true]
    rcases List.mem_cons.1 he with rfl | he
    · refine ⟨by simp, by simp only [PObj.lt, ltL_app, ltL_flatV, g14, Bool.and_self], ?_⟩
      simp only [rnF, List.getElem?_cons_zero, List.getElem?_cons_succ, PObj.rn, lkp, if_true, if_neg (show iI ≠ nx + 2 by omega), flatV_rn _ _ _ _ (g14 0 0)]
    · cases hks : v.keys with
      | nil => rw [hks] at he; cases he
      | cons y q =>
        rw [hks] at he
        simp only [hpT, List.mem_singleton] at he
        subst he
        refine ⟨by simp, by simp only [PObj.lt, ltL_app, ltL_flatT, g15, Bool.and_self], ?_⟩
        simp only [rnF, List.getElem?_cons_zero, List.getElem?_cons_succ, PObj.rn, lkp, if_true, if_neg (show iK ≠ nx + 2 by omega), if_neg (show iK ≠ iI by omega), hpT, List.cons_append]
        rw [rnL_frz _ (by rw [ltL_app, ltL_flatT, g15]; rfl)]) (by simp [PV.ltL, PV.lt]) rfl
  simp only [PV.rnL, PV.rn, rnF, List.getElem?_cons_zero, cellsV] at c3
  refine CallOk.ofI c3 rfl rfl rfl rfl ?_
  rintro r st1 ⟨r0, s0, ⟨rfl, rfl⟩, rfl, rfl⟩
  simp only
  have hfh := frame_heap (a := nx + 2) (b := iI) (c := iK) (N := nx + 4 + 3 + 2) (M := nt + 4 + 3 + 2) (o0 := .box 32 [vI v.kind, vB v.b, vI v.n, vS v.s, .ms 1 0 v.items.length cI, msT 2 cK v.keys]) (o1 := .box 32 (flatV (v.items.set i w) ++ rI)) (p0 := .box 32 [vI v.kind, vB v.b, vI v.n, vS v.s, .ms iI 0 v.items.length cI, msT iK cK v.keys]) (p1 := .box 32 (flatV v.items ++ rI)) (rK := rK) (ks := v.keys) (T := [(1, .box 32 [vI 0, vB false, vI 0, vS ByteArray.empty, vNil, vNil]), (0, .box 32 (cellsV v))]) (g15 0 0) (fun e he => by
    simp only [List.mem_cons, List.not_mem_nil, or_false] at he
    rcases he with rfl | rfl <;> simp only <;> omega)
  simp only [cellsV, PObj.rn, PV.rnL, PV.rn, msT_rn, flatV_rn _ _ _ _ (g14 0 0), rnF, List.getElem?_cons_zero, List.getElem?_cons_succ] at hfh
  rw [hfh]
  simp (implicitDefEqProofs := false) (disch := omega) only [go_sem, simprocAttr, go_sem, Nat.le_refl, Int.toNat_natCast, Int.toNat_zero, Int.toNat_one, str_eq, cellsV, decide_true, Bool.not_true, Bool.not_false, hpT_lkp, hpT_upd, outH, fzHAs, fzHA, fzHL, fzH_i, fzH_b, fzH_s, fzH_n, cells_at, encT_get0, encT_drop, List.getD_cons_zero, List.drop_succ_cons, List.drop_zero, encT_len, List.length_cons, Tryd.results44]
  obtain ⟨z1, z2⟩ := fz_setH (ii := iI) (iK := iK) (cI := cI) (cK := cK) (rI := rI) (rK := rK) (a := (nx + 2, .box 32 [vI v.kind, vB v.b, vI v.n, vS v.s, .ms iI 0 v.items.length cI, msT iK cK v.keys])) (b := (0, .box 32 [])) (H := [(1, .box 32 [vI v.kind, vB v.b, vI v.n, vS v.s, .ms iI 0 v.items.length cI, msT iK cK v.keys]), (0, .box 32 (cellsV v))]) (v.items.set i w) v.keys (by simp only; omega) (by simp only; omega) (by omega)
  rw [List.length_set] at z1
  simp only [cellsV] at z1 z2
  simp only [z1, z2, Option.map_some, hold_eq, b_some, packR, cells_at]
theorem encT_cut (t u : ByteArray) (r : List ByteArray) : List.drop 1 (List.take (r.length + 1 + 1) (encT (t :: u :: r))) = encT (u :: r) := by
  rw [encT_take, encT_drop, List.take_of_length_le (by simp)]; rfl
set_option maxHeartbeats 8000000 in
/-- What is done behind one step more. -/
theorem changed_more (w : V) (t u : ByteArray) (r : List ByteArray) (v : V) (gv : GV v) (ht : t.size ≤ 1000000) (hr : r.length ≤ 1000000) (ih : ∀ x ∈ v.items, Ok Tryd.prog 44 [.agg (cellsV x), .sl (encT (u :: r)), .fn 45 [.fp (cellsV w)]] (resG (setV x (u :: r) w))) :
    Ok Tryd.prog 44 [.agg (cellsV v), .sl (encT (t :: u :: r)), .fn 45 [.fp (cellsV w)]] (resG (setV v (t :: u :: r) w)) := by
  by_cases hn : plc v t < 0
  · rw [setV, if_pos hn]
    exact changed_no w t (u :: r) v gv ht hn
  have hlt := gv.at (t := t) hn
  have c0 := place_ok v t gv.2 gv.sort ht
  rw [setV, if_neg hn]
  simp only [cellsV] at c0
  refine Ok.of_pwpH (bar := noBar) (by kernel_rfl) Tryd.func44 rfl (by kernel_rfl) (by kernel_rfl) ?_
  generalize plc v t = a at *
  obtain ⟨i, rfl⟩ : ∃ i : Nat, a = i := ⟨a.toNat, by omega⟩
  rw [Int.toNat_natCast] at *
  have cx := ih (v.items.getD i default) (getD_mem hlt)
  obtain ⟨R, hR⟩ : ∃ R, setV (v.items.getD i default) (u :: r) w = R := ⟨_, rfl⟩
  rw [hR] at cx ⊢
  have hb := (V.small gv.2).1
  have hne : v.items ≠ [] := fun e => by rw [e] at hlt; simp at hlt
  cases R with
  | none =>
    show pwp _ _ _ _ (outH _ _ (.tup [.agg (cellsV vZero), vI 12]))
    unfold resG at cx
    rw [vz_cells] at cx ⊢
    simp only [cellsV] at cx
    simp (implicitDefEqProofs := false) (disch := omega) only [go_sem, simprocAttr, go_sem, Nat.le_refl, Int.toNat_natCast, Int.toNat_zero, Int.toNat_one, str_eq, cellsV, decide_true, Bool.not_true, Bool.not_false, hpT_lkp, hpT_upd, outH, fzHAs, fzHA, fzHL, fzH_i, fzH_b, fzH_s, fzH_n, cells_at, encT_get0, encT_drop, List.getD_cons_zero, List.drop_succ_cons, List.drop_zero, encT_len, List.length_cons, Tryd.results44, encT_cut]
    with_reducible refine CallOk.of c0 rfl ?_
    simp (implicitDefEqProofs := false) (disch := omega) only [go_sem, simprocAttr, go_sem, Nat.le_refl, Int.toNat_natCast, Int.toNat_zero, Int.toNat_one, str_eq, cellsV, decide_true, Bool.not_true, Bool.not_false, hpT_lkp, hpT_upd, outH, fzHAs, fzHA, fzHL, fzH_i, fzH_b, fzH_s, fzH_n, cells_at, encT_get0, encT_drop, List.getD_cons_zero, List.drop_succ_cons, List.drop_zero, encT_len, List.length_cons, Tryd.results44, encT_cut]
    refine CallOk.ofI (copy_at v gv.2 ⟨[], _, _, _, _⟩) rfl rfl rfl rfl ?_
    rintro r st1 ⟨iI, cI, rI, iK, cK, rK, nx, nt, g1, g2, g3, g4, g5, g6, g7, g8, g9, g10, g11, g12, g13, g14, g15, rfl, rfl⟩
    simp only at g1 g2 g6 g7
    rw [hpV_ne hne, msV_ne hne]
    simp (implicitDefEqProofs := false) (disch := omega) only [go_sem, simprocAttr, go_sem, Nat.le_refl, Int.toNat_natCast, Int.toNat_zero, Int.toNat_one, str_eq, cellsV, decide_true, Bool.not_true, Bool.not_false, hpT_lkp, hpT_upd, outH, fzHAs, fzHA, fzHL, fzH_i, fzH_b, fzH_s, fzH_n, cells_at, encT_get0, encT_drop, List.getD_cons_zero, List.drop_succ_cons, List.drop_zero, encT_len, List.length_cons, Tryd.results44, encT_cut]
    with_reducible refine CallOk.of cx rfl ?_
    simp (implicitDefEqProofs := false) (disch := omega) only [go_sem, simprocAttr, go_sem, Nat.le_refl, Int.toNat_natCast, Int.toNat_zero, Int.toNat_one, str_eq, cellsV, decide_true, Bool.not_true, Bool.not_false, hpT_lkp, hpT_upd, outH, fzHAs, fzHA, fzHL, fzH_i, fzH_b, fzH_s, fzH_n, cells_at, encT_get0, encT_drop, List.getD_cons_zero, List.drop_succ_cons, List.drop_zero, encT_len, List.length_cons, Tryd.results44, encT_cut]
  | some x =>
    show pwp _ _ _ _ (outH _ _ (.tup [.agg (cellsV (v.at i x)), vI 0]))
    unfold resG at cx
    simp only [cellsV] at cx
    have e := set_flatr (r := ([] : List PV)) hlt x
    simp (implicitDefEqProofs := false) (disch := omega) only [go_sem, simprocAttr, go_sem, Nat.le_refl, Int.toNat_natCast, Int.toNat_zero, Int.toNat_one, str_eq, cellsV, decide_true, Bool.not_true, Bool.not_false, hpT_lkp, hpT_upd, outH, fzHAs, fzHA, fzHL, fzH_i, fzH_b, fzH_s, fzH_n, cells_at, encT_get0, encT_drop, List.getD_cons_zero, List.drop_succ_cons, List.drop_zero, encT_len, List.length_cons, Tryd.results44, encT_cut]
    with_reducible refine CallOk.of c0 rfl ?_
    simp (implicitDefEqProofs := false) (disch := omega) only [go_sem, simprocAttr, go_sem, Nat.le_refl, Int.toNat_natCast, Int.toNat_zero, Int.toNat_one, str_eq, cellsV, decide_true, Bool.not_true, Bool.not_false, hpT_lkp, hpT_upd, outH, fzHAs, fzHA, fzHL, fzH_i, fzH_b, fzH_s, fzH_n, cells_at, encT_get0, encT_drop, List.getD_cons_zero, List.drop_succ_cons, List.drop_zero, encT_len, List.length_cons, Tryd.results44, encT_cut]
    refine CallOk.ofI (copy_at v gv.2 ⟨[], _, _, _, _⟩) rfl rfl rfl rfl ?_
    rintro r st1 ⟨iI, cI, rI, iK, cK, rK, nx, nt, g1, g2, g3, g4, g5, g6, g7, g8, g9, g10, g11, g12, g13, g14, g15, rfl, rfl⟩
    simp only at g1 g2 g6 g7
    rw [hpV_ne hne, msV_ne hne]
    simp (implicitDefEqProofs := false) (disch := omega) only [go_sem, simprocAttr, go_sem, Nat.le_refl, Int.toNat_natCast, Int.toNat_zero, Int.toNat_one, str_eq, cellsV, decide_true, Bool.not_true, Bool.not_false, hpT_lkp, hpT_upd, outH, fzHAs, fzHA, fzHL, fzH_i, fzH_b, fzH_s, fzH_n, cells_at, encT_get0, encT_drop, List.getD_cons_zero, List.drop_succ_cons, List.drop_zero, encT_len, List.length_cons, Tryd.results44, encT_cut]
    with_reducible refine CallOk.of cx rfl ?_
    have e2 := set_flatr (r := rI) hlt x
    simp only [cellsV] at e2
    simp (implicitDefEqProofs := false) (disch := omega) only [go_sem, simprocAttr, go_sem, Nat.le_refl, Int.toNat_natCast, Int.toNat_zero, Int.toNat_one, str_eq, cellsV, decide_true, Bool.not_true, Bool.not_false, hpT_lkp, hpT_upd, outH, fzHAs, fzHA, fzHL, fzH_i, fzH_b, fzH_s, fzH_n, cells_at, encT_get0, encT_drop, List.getD_cons_zero, List.drop_succ_cons, List.drop_zero, encT_len, List.length_cons, Tryd.results44, encT_cut, List.length_append, flatV_len, List.append_assoc, e2]
    obtain ⟨z1, z2⟩ := fz_lk (ii := iI) (iK := iK) (cI := cI) (cK := cK) (rI := rI) (rK := rK) (H := (nx + 4 + 3 + 12, .box 32 [vI x.kind, vB x.b, vI x.n, vS x.s, .sl (encV x.items), .sl (encT x.keys)]) :: (nx + 2, .box 32 [vI v.kind, vB v.b, vI v.n, vS v.s, .ms iI 0 v.items.length cI, msT iK cK v.keys]) :: (iI, .box 32 (flatV (v.items.set i x) ++ rI)) :: (hpT iK rK v.keys ++ [(1, .box 32 [vI v.kind, vB v.b, vI v.n, vS v.s, .ms iI 0 v.items.length cI, msT iK cK v.keys]), (0, .box 32 [vI v.kind, vB v.b, vI v.n, vS v.s, .sl (encV v.items), .sl (encT v.keys)])])) (l := v.items.set i x) (ks := v.keys)
      (by simp (disch := omega) only [lkp, ob_T, ob_F, if_true]) (fun h => by rw [lkp, if_neg (by omega), lkp, if_neg (by omega), lkp, if_neg (by omega), hpT_self h])
    rw [List.length_set] at z1
    simp only [z1, z2, Option.map_some, hold_eq, b_some, packR, cells_at]
/-- What is set behind some steps. -/
theorem changed_ok (w : V) (hw : szV w ≤ 1000000) : ∀ (r : List ByteArray) (t : ByteArray) (v : V), GV v → fewT (t :: r) → r.length ≤ 1000000 → Ok Tryd.prog 44 [.agg (cellsV v), .sl (encT (t :: r)), .fn 45 [.fp (cellsV w)]] (resG (setV v (t :: r) w))
  | [], t, v, gv, hf, _ => changed_one w hw t v gv (hf t (by simp))
  | u :: r, t, v, gv, hf, hl => changed_more w t u r v gv (hf t (by simp)) (by simp at hl; omega) (fun x hx => changed_ok w hw r u x (gv.item hx) (fun s hs => hf s (by simp at hs ⊢; exact .inr hs)) (by simp at hl; omega))
set_option maxHeartbeats 4000000 in
theorem pset_ok (w : V) (hw : szV w ≤ 1000000) (p : List ByteArray) (v : V) (gv : GV v) (hf : fewT p) (hl : p.length ≤ 1000000) : Ok Tryd.prog 22 [.agg (cellsV v), .sl (encT p), .agg (cellsV w)] (resG (setV v p w)) := by
  refine Ok.of_pwp (by kernel_rfl) Tryd.func22 rfl (by kernel_rfl) (by kernel_rfl) ?_
  cases p with
  | nil =>
    have c1 := copy_ok w hw
    simp only [cellsV] at c1
    show pwp _ _ _ _ (outK _ _ (.tup [.agg (cellsV w), vI 0]))
    simp (implicitDefEqProofs := false) (disch := omega) only [go_sem, simprocAttr, go_sem, Nat.le_refl, Int.toNat_natCast, Int.toNat_zero, Int.toNat_one, str_eq, cellsV, decide_true, Bool.not_true, Bool.not_false, Tryd.results22, encT_len, List.length_cons, encT_nil]
    with_reducible refine CallOk.of c1 rfl ?_
    simp (implicitDefEqProofs := false) (disch := omega) only [go_sem, simprocAttr, go_sem, Nat.le_refl, Int.toNat_natCast, Int.toNat_zero, Int.toNat_one, str_eq, cellsV, decide_true, Bool.not_true, Bool.not_false, Tryd.results22, encT_len, List.length_cons, encT_nil]
  | cons t r =>
    have c1 := changed_ok w hw r t v gv hf (by simp at hl; omega)
    generalize setV v (t :: r) w = R at *
    cases R with
    | none =>
      show pwp _ _ _ _ (outK _ _ (.tup [.agg (cellsV vZero), vI 12]))
      unfold resG at c1
      rw [vz_cells] at c1 ⊢
      simp only [cellsV] at c1
      simp (implicitDefEqProofs := false) (disch := omega) only [go_sem, simprocAttr, go_sem, Nat.le_refl, Int.toNat_natCast, Int.toNat_zero, Int.toNat_one, str_eq, cellsV, decide_true, Bool.not_true, Bool.not_false, Tryd.results22, encT_len, List.length_cons, encT_nil]
      refine CallOk.ofI (OkI.freeze1 (i := 1) (st := ⟨[], _, _, _, _⟩) rfl rfl (OkI.ofQ (Ok.q c1) rfl)) rfl rfl rfl rfl ?_
      rintro r st1 ⟨rfl, rfl⟩
      simp (implicitDefEqProofs := false) (disch := omega) only [go_sem, simprocAttr, go_sem, Nat.le_refl, Int.toNat_natCast, Int.toNat_zero, Int.toNat_one, str_eq, cellsV, decide_true, Bool.not_true, Bool.not_false, Tryd.results22, encT_len, List.length_cons, encT_nil]
    | some x =>
      show pwp _ _ _ _ (outK _ _ (.tup [.agg (cellsV x), vI 0]))
      unfold resG at c1
      simp only [cellsV] at c1
      simp (implicitDefEqProofs := false) (disch := omega) only [go_sem, simprocAttr, go_sem, Nat.le_refl, Int.toNat_natCast, Int.toNat_zero, Int.toNat_one, str_eq, cellsV, decide_true, Bool.not_true, Bool.not_false, Tryd.results22, encT_len, List.length_cons, encT_nil]
      refine CallOk.ofI (OkI.freeze1 (i := 1) (st := ⟨[], _, _, _, _⟩) rfl rfl (OkI.ofQ (Ok.q c1) rfl)) rfl rfl rfl rfl ?_
      rintro r st1 ⟨rfl, rfl⟩
      simp (implicitDefEqProofs := false) (disch := omega) only [go_sem, simprocAttr, go_sem, Nat.le_refl, Int.toNat_natCast, Int.toNat_zero, Int.toNat_one, str_eq, cellsV, decide_true, Bool.not_true, Bool.not_false, Tryd.results22, encT_len, List.length_cons, encT_nil]
end Go.Proofs.YtahgjolokkfhjaaDoor

end
section
/-
  Chapter 4, plain: all paths of a value; what is set at one path, and what stands at another one.
-/
open Go Go.Proofs Go.Pw Go.RowKit
namespace Go.Proofs.YtahgjolokkfhjaaDoor
set_option maxRecDepth 4000
set_option linter.unusedVariables false
set_option linter.unusedSimpArgs false
/-- The step to an item. -/
def stepT (k : Int) (keys : List ByteArray) (i : Nat) : ByteArray := if k = 5 then keys.getD i ByteArray.empty else sOf i
mutual
/-- All paths of a value, behind one. -/
def allV : V → List ByteArray → List (List ByteArray × V)
  | .mk k b n s items keys, p => (p, .mk k b n s items keys) :: allVs k keys items 0 p
def allVs (k : Int) (keys : List ByteArray) : List V → Nat → List ByteArray → List (List ByteArray × V)
  | [], _, _ => []
  | x :: r, i, p => allV x (p ++ [stepT k keys i]) ++ allVs k keys r (i + 1) p
end
theorem allV_eq (v : V) (p : List ByteArray) : allV v p = (p, v) :: allVs v.kind v.keys v.items 0 p := by cases v; rw [allV]; rfl
theorem allVs_app (k : Int) (keys : List ByteArray) (p : List ByteArray) : ∀ (l m : List V) (i : Nat), allVs k keys (l ++ m) i p = allVs k keys l i p ++ allVs k keys m (i + l.length) p
  | [], m, i => by simp [allVs]
  | x :: r, m, i => by
    rw [List.cons_append, allVs, allVs, allVs_app k keys p r m (i + 1), List.append_assoc, List.length_cons]
    congr 3; omega
theorem allVs_snoc (k : Int) (keys : List ByteArray) (p : List ByteArray) {l : List V} {i : Nat} (h : i < l.length) : allVs k keys (l.take (i + 1)) 0 p = allVs k keys (l.take i) 0 p ++ allV (l.getD i default) (p ++ [stepT k keys i]) := by
  rw [take_snocG (d := default) h, allVs_app, allVs, allVs, List.append_nil, Nat.zero_add, List.length_take, Nat.min_eq_left (by omega)]
theorem allVs_mem (k : Int) (keys : List ByteArray) (p : List ByteArray) (x : List ByteArray × V) : ∀ (l : List V) (i : Nat), x ∈ allVs k keys l i p → ∃ j, j < l.length ∧ x ∈ allV (l.getD j default) (p ++ [stepT k keys (i + j)])
  | [], i, h => by simp [allVs] at h
  | y :: r, i, h => by
    rw [allVs, List.mem_append] at h
    rcases h with h | h
    · exact ⟨0, by simp, h⟩
    · obtain ⟨j, h1, h2⟩ := allVs_mem k keys p x r (i + 1) h
      exact ⟨j + 1, by simp; omega, by rw [List.getD_cons_succ, show i + (j + 1) = i + 1 + j by omega]; exact h2⟩
theorem allVs_len (k : Int) (keys : List ByteArray) (p : List ByteArray) : ∀ (l : List V) (i : Nat), (∀ x ∈ l, ∀ q, (allV x q).length = nV x) → (allVs k keys l i p).length = nVs l
  | [], i, h => by rw [allVs, nVs_nil]; rfl
  | x :: r, i, h => by
    rw [allVs, List.length_append, h x (by simp), allVs_len k keys p r (i + 1) (fun y hy => h y (by simp [hy])), nVs_cons]
theorem allV_len : ∀ (v : V) (p : List ByteArray), (allV v p).length = nV v := by
  refine V.ind fun v ih p => ?_
  rw [allV_eq, List.length_cons, allVs_len _ _ _ _ _ ih, nV_eq]
  omega
theorem GV.few {v : V} (h : GV v) : ∀ s ∈ v.keys, s.size ≤ 1000000 := (V.few h.2).2
theorem GV.kind {v : V} (h : GV v) : 0 ≤ v.kind ∧ v.kind ≤ 5 := by
  have hg := h.1
  rw [goodB_eq] at hg
  simp only [Bool.and_eq_true, decide_eq_true_eq] at hg
  exact hg.1.1.1.1
theorem GV.leaf {v : V} (h : GV v) (h4 : v.kind < 4) : v.items = [] := by
  have hg := h.1
  rw [goodB_eq] at hg
  simp only [Bool.and_eq_true] at hg
  have hbare := hg.1.1.1.2
  unfold bareB at hbare
  simp only [Bool.and_eq_true, Bool.or_eq_true, decide_eq_true_eq] at hbare
  rcases hbare.1.2 with h | h
  · omega
  · exact List.length_eq_zero_iff.1 h
theorem GV.lens5 {v : V} (h : GV v) (h5 : v.kind = 5) : v.keys.length = v.items.length := by
  have hg := h.1
  rw [goodB_eq] at hg
  simp only [Bool.and_eq_true] at hg
  have hkey := hg.1.1.2
  unfold keyedB at hkey
  simp only [Bool.and_eq_true, Bool.or_eq_true, decide_eq_true_eq] at hkey
  rcases hkey.2 with h' | h'
  · exact absurd h5 h'
  · exact h'
theorem sort_get {l : List ByteArray} (h : SortT l) {i j : Nat} (hij : i < j) (hj : j < l.length) : ltT (l.getD i ByteArray.empty) (l.getD j ByteArray.empty) = true := by
  rw [List.getD_eq_getElem?_getD, List.getD_eq_getElem?_getD, List.getElem?_eq_getElem (by omega), List.getElem?_eq_getElem hj]
  exact List.pairwise_iff_getElem.1 h i j (by omega) hj hij
theorem posT_key {l : List ByteArray} (h : SortT l) {i : Nat} (hi : i < l.length) : posT l (l.getD i ByteArray.empty) = i :=
  posT_of (by omega) (fun k hk => sort_get h hk hi) (fun _ => ltT_irr _)
theorem plc_step {v : V} (gv : GV v) {i : Nat} (hi : i < v.items.length) : plc v (stepT v.kind v.keys i) = i := by
  unfold plc stepT
  have hk := gv.kind
  by_cases h5 : v.kind = 5
  · have hl := gv.lens5 h5
    rw [if_pos h5, if_pos h5, posT_key gv.sort (by omega), if_pos]
    unfold foundT
    rw [posT_key gv.sort (by omega), decide_eq_true (by omega), decide_eq_true rfl]; rfl
  · by_cases h4 : v.kind = 4
    · rw [if_neg h5, if_pos h4, if_neg h5, ixT_yes hi rfl]
    · have := gv.leaf (by omega)
      rw [this] at hi
      simp at hi
/-- A path that is told leads to what is told. -/
theorem allV_get : ∀ (v : V), GV v → ∀ (p : List ByteArray) (x : List ByteArray × V), x ∈ allV v p → ∃ r, x.1 = p ++ r ∧ getV v r = some x.2 := by
  refine V.ind fun v ih gv p x hx => ?_
  rw [allV_eq, List.mem_cons] at hx
  rcases hx with rfl | hx
  · exact ⟨[], by simp, rfl⟩
  · obtain ⟨j, h1, h2⟩ := allVs_mem _ _ _ _ _ _ hx
    rw [Nat.zero_add] at h2
    obtain ⟨r, h3, h4⟩ := ih _ (getD_mem h1) (gv.item (getD_mem h1)) _ _ h2
    refine ⟨stepT v.kind v.keys j :: r, by rw [h3]; simp, ?_⟩
    rw [getV, plc_step gv h1, if_neg (by omega), Int.toNat_natCast]
    exact h4
theorem plc_inj {v : V} {s t : ByteArray} (gv : GV v) (hs : ¬ plc v s < 0) (h : plc v s = plc v t) : s = t := by
  unfold plc at hs h
  by_cases h5 : v.kind = 5
  · rw [if_pos h5] at hs h
    rw [if_pos h5] at h
    by_cases f1 : foundT v.keys s = true
    · by_cases f2 : foundT v.keys t = true
      · rw [if_pos f1, if_pos f2] at h
        unfold foundT at f1 f2
        simp only [Bool.and_eq_true, decide_eq_true_eq] at f1 f2
        rw [← f1.2, ← f2.2, show posT v.keys s = posT v.keys t by omega]
      · rw [if_pos f1, if_neg f2] at h; omega
    · rw [if_neg f1] at hs; exact absurd (by decide) hs
  · by_cases h4 : v.kind = 4
    · rw [if_neg h5, if_pos h4] at hs h
      rw [if_neg h5, if_pos h4] at h
      unfold ixT at hs h
      cases e1 : (List.range v.items.length).find? (fun i : Nat => decide (sOf i = s)) with
      | none => rw [e1] at hs; exact absurd (by decide) hs
      | some i =>
        cases e2 : (List.range v.items.length).find? (fun i : Nat => decide (sOf i = t)) with
        | none => rw [e1, e2] at h; simp only at h; omega
        | some j =>
          rw [e1, e2] at h
          simp only at h
          have h1 := List.find?_some e1
          have h2 := List.find?_some e2
          simp only [decide_eq_true_eq] at h1 h2
          rw [← h1, ← h2, h]
    · rw [if_neg h5, if_neg h4] at hs; exact absurd (by decide) hs
@[simp] theorem at_kind (v : V) (i : Nat) (u : V) : (v.at i u).kind = v.kind := rfl
@[simp] theorem at_keys (v : V) (i : Nat) (u : V) : (v.at i u).keys = v.keys := rfl
@[simp] theorem at_items (v : V) (i : Nat) (u : V) : (v.at i u).items = v.items.set i u := rfl
@[simp] theorem at_s (v : V) (i : Nat) (u : V) : (v.at i u).s = v.s := rfl
theorem plc_at (v : V) (i : Nat) (u : V) (t : ByteArray) : plc (v.at i u) t = plc v t := by
  unfold plc
  rw [at_kind, at_keys, at_items, List.length_set]
theorem getD_set_same {l : List V} {i : Nat} (h : i < l.length) (u : V) : (l.set i u).getD i default = u := by
  rw [List.getD_eq_getElem?_getD, List.getElem?_set_self (by omega)]; rfl
theorem getD_set_other {l : List V} {i j : Nat} (h : i ≠ j) (u : V) : (l.set i u).getD j default = l.getD j default := by
  rw [List.getD_eq_getElem?_getD, List.getD_eq_getElem?_getD, List.getElem?_set_ne h]
/-- What is set at one path changes nothing of what stands at another one. -/
theorem set_apart : ∀ (p q : List ByteArray) (v w v' : V), GV v → setV v p w = some v' → ¬ p <+: q → ¬ q <+: p → getV v' q = getV v q
  | [], q, v, w, v', gv, h, h1, h2 => absurd (List.nil_prefix) h1
  | t :: r, [], v, w, v', gv, h, h1, h2 => absurd (List.nil_prefix) h2
  | t :: r, s :: q, v, w, v', gv, h, h1, h2 => by
    rw [setV] at h
    split at h
    · cases h
    rename_i hn
    have hlt := gv.at (t := t) hn
    obtain ⟨u, hu, rfl⟩ := Option.map_eq_some_iff.1 h
    rw [getV, getV, plc_at]
    by_cases hs : plc v s < 0
    · rw [if_pos hs, if_pos hs]
    rw [if_neg hs, if_neg hs, at_items]
    by_cases he : plc v t = plc v s
    · obtain rfl := plc_inj gv hn he
      rw [getD_set_same hlt]
      exact set_apart r q _ w u (gv.item (getD_mem hlt)) hu (fun h => h1 (List.prefix_cons_inj _ |>.2 h)) (fun h => h2 (List.prefix_cons_inj _ |>.2 h))
    · rw [getD_set_other (by omega)]
/-- A path that leads somewhere: there can be set. -/
theorem set_some : ∀ (p : List ByteArray) (v w u : V), getV v p = some u → ∃ v', setV v p w = some v'
  | [], v, w, u, h => ⟨w, rfl⟩
  | t :: r, v, w, u, h => by
    rw [getV] at h
    split at h
    · cases h
    rename_i hn
    obtain ⟨x, hx⟩ := set_some r _ w u h
    exact ⟨_, by rw [setV, if_neg hn, hx]; rfl⟩
theorem set_none : ∀ (p : List ByteArray) (v w : V), getV v p = none → setV v p w = none
  | [], v, w, h => by cases h
  | t :: r, v, w, h => by
    rw [getV] at h
    rw [setV]
    split at h
    · rename_i hn; rw [if_pos hn]
    · rename_i hn; rw [if_neg hn, set_none r _ w h]; rfl
/-- What is set stands there. -/
theorem set_get : ∀ (p : List ByteArray) (v w v' : V), GV v → setV v p w = some v' → getV v' p = some w
  | [], v, w, v', gv, h => by cases h; rfl
  | t :: r, v, w, v', gv, h => by
    rw [setV] at h
    split at h
    · cases h
    rename_i hn
    have hlt := gv.at (t := t) hn
    obtain ⟨u, hu, rfl⟩ := Option.map_eq_some_iff.1 h
    rw [getV, plc_at, if_neg hn, at_items, getD_set_same hlt]
    exact set_get r _ w u (gv.item (getD_mem hlt)) hu
theorem szVs_set' : ∀ (l : List V) (i : Nat) (u : V), i < l.length → szVs (l.set i u) + szV (l.getD i default) = szVs l + szV u
  | [], i, u, h => by simp at h
  | x :: r, 0, u, h => by rw [List.set_cons_zero, szVs_cons, szVs_cons, List.getD_cons_zero]; omega
  | x :: r, i + 1, u, h => by
    rw [List.set_cons_succ, szVs_cons, szVs_cons, List.getD_cons_succ]
    have := szVs_set' r i u (by simp at h; omega)
    omega
theorem set_good : ∀ (p : List ByteArray) (v w v' : V), goodB v = true → goodB w = true → GV v → setV v p w = some v' → goodB v' = true ∧ szV v' ≤ szV v + szV w
  | [], v, w, v', hv, hw, gv, h => by cases h; exact ⟨hw, by omega⟩
  | t :: r, v, w, v', hv, hw, gv, h => by
    rw [setV] at h
    split at h
    · cases h
    rename_i hn
    have hlt := gv.at (t := t) hn
    obtain ⟨u, hu, rfl⟩ := Option.map_eq_some_iff.1 h
    have gx := gv.item (getD_mem (d := default) hlt)
    obtain ⟨h1, h2⟩ := set_good r _ w u gx.1 hw gx hu
    refine ⟨?_, ?_⟩
    · rw [goodB_eq] at hv ⊢
      simp only [V.at, V.kind_mk, V.b_mk, V.n_mk, V.s_mk, V.items_mk, V.keys_mk, List.length_set, Bool.and_eq_true, List.all_eq_true] at hv ⊢
      refine ⟨hv.1, fun x hx => ?_⟩
      rcases List.mem_or_eq_of_mem_set hx with h | h
      · exact hv.2 x h
      · rw [h]; exact h1
    · have e1 := szV_eq v
      have e2 := szV_eq (v.at (plc v t).toNat u)
      have e3 := szVs_set' v.items (plc v t).toNat u hlt
      simp only [at_s, at_keys, at_items] at e2
      omega
end Go.Proofs.YtahgjolokkfhjaaDoor

end
section
/-
  Chapter 4: all paths of a value (the document's); one of them by a number; whether paths are the same, whether one begins with another one.
-/
open Go Go.Proofs Go.Pw Go.RowKit
namespace Go.Proofs.YtahgjolokkfhjaaDoor
set_option maxRecDepth 4000
set_option linter.unusedVariables false
set_option linter.unusedSimpArgs false
abbrev Part := List ByteArray × V
def cellsP (x : Part) : List PV := .sl (encT x.1) :: cellsV x.2
def encP (l : List Part) : List (List PV) := l.map cellsP
theorem encP_len (l : List Part) : (encP l).length = l.length := by simp [encP]
theorem encP_app (l m : List Part) : encP l ++ encP m = encP (l ++ m) := by simp [encP]
theorem encP_all (l : List Part) : (∀ x ∈ encP l, x.length = 7) = True := eq_true (fun x hx => by
  obtain ⟨s, _, rfl⟩ := List.mem_map.1 hx
  rfl)
theorem fz_encP : ∀ (l : List Part), fzLL (encP l) = some (encP l)
  | [] => rfl
  | x :: r => by
    rw [encP, List.map_cons, fzLL, show fzL (cellsP x) = some (cellsP x) from rfl]
    have := fz_encP r
    rw [encP] at this
    rw [this]
theorem app_stopP {e : TypeId} {sz b tk k : Nat} {st : PS} {xs : List (List PV)} {K : Delta → Prop} {l : List Part} : appT e sz b st tk K (.row k xs) (encP l) = appZ e sz b st tk K (.row k xs) (encP l) := propext Iff.rfl
attribute [go_sem ↓ 2000] app_stopP
attribute [go_sem] encP_len fz_encP
/-- What has been told when i items are done. -/
def preA (v : V) (p : List ByteArray) (i : Nat) : List Part := (p, v) :: allVs v.kind v.keys (v.items.take i) 0 p
theorem preA_step {v : V} {p : List ByteArray} {i : Nat} (h : i < v.items.length) : preA v p (i + 1) = preA v p i ++ allV (v.items.getD i default) (p ++ [stepT v.kind v.keys i]) := by
  unfold preA
  rw [allVs_snoc _ _ _ h, List.cons_append]
theorem preA_end (v : V) (p : List ByteArray) : preA v p v.items.length = allV v p := by unfold preA; rw [List.take_length, allV_eq]
theorem preA_len {v : V} {p : List ByteArray} (i : Nat) : (preA v p i).length ≤ nV v := by
  have h := allV_len v p
  have e : allVs v.kind v.keys v.items 0 p = allVs v.kind v.keys (v.items.take i) 0 p ++ allVs v.kind v.keys (v.items.drop i) (0 + (v.items.take i).length) p := by rw [← allVs_app, List.take_append_drop]
  rw [allV_eq, List.length_cons, e, List.length_append] at h
  unfold preA
  rw [List.length_cons]
  omega
theorem encP_one (x : Part) : [cellsP x] = encP [x] := rfl
set_option maxHeartbeats 8000000 in
theorem all_ok : ∀ (v : V), GV v → ∀ (p : List ByteArray), p.length + szV v ≤ 2000000 → Ok Tryd.prog 17 [.agg (cellsV v), .sl (encT p)] (.sl (encP (allV v p))) := by
  refine V.ind fun v ih gv p hp => ?_
  obtain ⟨hl, hl2, hx, hs⟩ := V.small gv.2
  have hz := szV_eq v
  have hn := nV_le v
  have hv6 := gv.2
  have hit : ∀ i, i < v.items.length → Ok Tryd.prog 17 [.agg (cellsV (v.items.getD i default)), .sl (encT (p ++ [stepT v.kind v.keys i]))] (.sl (encP (allV (v.items.getD i default) (p ++ [stepT v.kind v.keys i])))) := fun i hi => by
    have := szVs_mem (getD_mem (d := default) hi)
    exact ih _ (getD_mem hi) (gv.item (getD_mem hi)) _ (by rw [List.length_append, List.length_singleton]; omega)
  have hpl : p.length ≤ 2000000 := by omega
  suffices key : ∀ rr, rr = PV.sl (encP (allV v p)) → Ok Tryd.prog 17 [.agg (cellsV v), .sl (encT p)] rr from key _ rfl
  intro rr hrr
  refine Ok.of_pwp (by kernel_rfl) Tryd.func17 rfl (by kernel_rfl) (by kernel_rfl) ?_
  simp (implicitDefEqProofs := false) (disch := omega) only [go_sem, simprocAttr, go_sem, Nat.le_refl, Int.toNat_natCast, Int.toNat_zero, Int.toNat_one, str_eq, cellsV, decide_true, Bool.not_true, Bool.not_false, encP_all, encT_one, encT_app, Tryd.results17]
  refine p_loop (ι := { i : Nat // i ≤ v.items.length }) (fun i => ⟨[(15, vI i.1), (14, vI v.items.length), (13, .sl (encV v.items)), (5, .row 5 (encP (preA v p i.1))), (2, .ptr 0 0), (1, .sl (encT p))], [(0, .box 28 (cellsV v))], [(5, ⟨49, 7, (preA v p i.1).length⟩)], 1, 6⟩) (fun i => v.items.length - i.1) ⟨0, Nat.zero_le _⟩ ?_ ?_
  · have e0 : preA v p 0 = [(p, v)] := rfl
    rw [e0, ← encP_one]
    refine ⟨?_, ?_, ?_, ?_, ?_, ?_, ?_⟩ <;> simp only [go_sem, simprocAttr, decide_eq_true_eq, Int.natCast_zero, cellsP, cellsV, List.length_singleton] <;> try first | omega | ((repeat' (first | exact And.intro rfl (by omega) | (refine And.intro ?_ ?_))) <;> first | rfl | omega | (congr 3; omega) | (congr 2; omega))
  · rintro ⟨i, h1⟩
    simp only
    have hpre := preA_len (v := v) (p := p) i
    by_cases hi : i < v.items.length
    · have e1 := preA_step (p := p) hi
      have hpre2 := preA_len (v := v) (p := p) (i + 1)
      rw [e1, List.length_append] at hpre2
      have cx := hit i hi
      have hf : fits i := by unfold fits; omega
      have c1 := of_rep (i : Int) hf
      have c2 := rtext_ok (i : Int) hf
      simp only [cellsV] at cx
      by_cases h5 : v.kind = 5
      · have hk := gv.lens5 h5
        have es : stepT v.kind v.keys i = v.keys.getD i ByteArray.empty := if_pos h5
        rw [es] at cx e1 hpre2
        have hkd : decide (v.kind = 5) = true := decide_eq_true h5
        simp (implicitDefEqProofs := false) (disch := omega) only [go_sem, simprocAttr, go_sem, Nat.le_refl, Int.toNat_natCast, Int.toNat_zero, Int.toNat_one, str_eq, cellsV, decide_true, Bool.not_true, Bool.not_false, encP_all, encT_one, encT_app, Tryd.results17]
        with_reducible refine CallOk.of c1 rfl ?_
        simp (implicitDefEqProofs := false) (disch := omega) only [go_sem, simprocAttr, go_sem, Nat.le_refl, Int.toNat_natCast, Int.toNat_zero, Int.toNat_one, str_eq, cellsV, decide_true, Bool.not_true, Bool.not_false, encP_all, encT_one, encT_app, Tryd.results17]
        with_reducible refine CallOk.of c2 rfl ?_
        simp (implicitDefEqProofs := false) (disch := omega) only [go_sem, simprocAttr, go_sem, Nat.le_refl, Int.toNat_natCast, Int.toNat_zero, Int.toNat_one, str_eq, cellsV, decide_true, Bool.not_true, Bool.not_false, encP_all, encT_one, encT_app, Tryd.results17, hkd]
        refine appZ_any rfl rfl (by rw [encT_len, List.length_nil]; omega) (by rw [encT_len, List.length_nil]; omega) ?_
        simp (implicitDefEqProofs := false) (disch := omega) only [go_sem, simprocAttr, go_sem, Nat.le_refl, Int.toNat_natCast, Int.toNat_zero, Int.toNat_one, str_eq, cellsV, decide_true, Bool.not_true, Bool.not_false, encP_all, encT_one, encT_app, Tryd.results17]
        refine appZ_any rfl (by rw [encT_len]) (by rw [encT_len, encT_len, List.length_singleton]; omega) (by rw [encT_len, encT_len, List.length_singleton]; omega) ?_
        simp (implicitDefEqProofs := false) (disch := omega) only [go_sem, simprocAttr, go_sem, Nat.le_refl, Int.toNat_natCast, Int.toNat_zero, Int.toNat_one, str_eq, cellsV, decide_true, Bool.not_true, Bool.not_false, encP_all, encT_one, encT_app, Tryd.results17]
        with_reducible refine CallOk.of cx rfl ?_
        simp (implicitDefEqProofs := false) (disch := omega) only [go_sem, simprocAttr, go_sem, Nat.le_refl, Int.toNat_natCast, Int.toNat_zero, Int.toNat_one, str_eq, cellsV, decide_true, Bool.not_true, Bool.not_false, encP_all, encT_one, encT_app, Tryd.results17]
        refine appZ_any rfl (by rw [encP_len]) (by rw [encP_len, encP_len]; omega) (by rw [encP_len, encP_len]; omega) ?_
        simp (implicitDefEqProofs := false) (disch := omega) only [go_sem, simprocAttr, go_sem, Nat.le_refl, Int.toNat_natCast, Int.toNat_zero, Int.toNat_one, str_eq, cellsV, decide_true, Bool.not_true, Bool.not_false, encP_all, encT_one, encT_app, Tryd.results17]
        refine ⟨⟨i + 1, hi⟩, by simp only; omega, ?_⟩
        simp only [e1, ← encP_app]
        refine ⟨?_, ?_, ?_, ?_, ?_, ?_, ?_⟩ <;> simp only [go_sem, simprocAttr, decide_eq_true_eq, Int.natCast_add, Int.natCast_one, cellsV, List.length_append, encP_len] <;> try first | omega | ((repeat' (first | exact And.intro rfl (by omega) | (refine And.intro ?_ ?_))) <;> first | rfl | omega | (congr 3; omega) | (congr 2; omega))
      · have es : stepT v.kind v.keys i = sOf i := if_neg h5
        rw [es] at cx e1 hpre2
        have hkd : decide (v.kind = 5) = false := decide_eq_false h5
        simp (implicitDefEqProofs := false) (disch := omega) only [go_sem, simprocAttr, go_sem, Nat.le_refl, Int.toNat_natCast, Int.toNat_zero, Int.toNat_one, str_eq, cellsV, decide_true, Bool.not_true, Bool.not_false, encP_all, encT_one, encT_app, Tryd.results17]
        with_reducible refine CallOk.of c1 rfl ?_
        simp (implicitDefEqProofs := false) (disch := omega) only [go_sem, simprocAttr, go_sem, Nat.le_refl, Int.toNat_natCast, Int.toNat_zero, Int.toNat_one, str_eq, cellsV, decide_true, Bool.not_true, Bool.not_false, encP_all, encT_one, encT_app, Tryd.results17]
        with_reducible refine CallOk.of c2 rfl ?_
        simp (implicitDefEqProofs := false) (disch := omega) only [go_sem, simprocAttr, go_sem, Nat.le_refl, Int.toNat_natCast, Int.toNat_zero, Int.toNat_one, str_eq, cellsV, decide_true, Bool.not_true, Bool.not_false, encP_all, encT_one, encT_app, Tryd.results17, hkd]
        refine appZ_any rfl rfl (by rw [encT_len, List.length_nil]; omega) (by rw [encT_len, List.length_nil]; omega) ?_
        simp (implicitDefEqProofs := false) (disch := omega) only [go_sem, simprocAttr, go_sem, Nat.le_refl, Int.toNat_natCast, Int.toNat_zero, Int.toNat_one, str_eq, cellsV, decide_true, Bool.not_true, Bool.not_false, encP_all, encT_one, encT_app, Tryd.results17]
        refine appZ_any rfl (by rw [encT_len]) (by rw [encT_len, encT_len, List.length_singleton]; omega) (by rw [encT_len, encT_len, List.length_singleton]; omega) ?_
        simp (implicitDefEqProofs := false) (disch := omega) only [go_sem, simprocAttr, go_sem, Nat.le_refl, Int.toNat_natCast, Int.toNat_zero, Int.toNat_one, str_eq, cellsV, decide_true, Bool.not_true, Bool.not_false, encP_all, encT_one, encT_app, Tryd.results17]
        with_reducible refine CallOk.of cx rfl ?_
        simp (implicitDefEqProofs := false) (disch := omega) only [go_sem, simprocAttr, go_sem, Nat.le_refl, Int.toNat_natCast, Int.toNat_zero, Int.toNat_one, str_eq, cellsV, decide_true, Bool.not_true, Bool.not_false, encP_all, encT_one, encT_app, Tryd.results17]
        refine appZ_any rfl (by rw [encP_len]) (by rw [encP_len, encP_len]; omega) (by rw [encP_len, encP_len]; omega) ?_
        simp (implicitDefEqProofs := false) (disch := omega) only [go_sem, simprocAttr, go_sem, Nat.le_refl, Int.toNat_natCast, Int.toNat_zero, Int.toNat_one, str_eq, cellsV, decide_true, Bool.not_true, Bool.not_false, encP_all, encT_one, encT_app, Tryd.results17]
        refine ⟨⟨i + 1, hi⟩, by simp only; omega, ?_⟩
        simp only [e1, ← encP_app]
        refine ⟨?_, ?_, ?_, ?_, ?_, ?_, ?_⟩ <;> simp only [go_sem, simprocAttr, decide_eq_true_eq, Int.natCast_add, Int.natCast_one, cellsV, List.length_append, encP_len] <;> try first | omega | ((repeat' (first | exact And.intro rfl (by omega) | (refine And.intro ?_ ?_))) <;> first | rfl | omega | (congr 3; omega) | (congr 2; omega))
    · have hi' : i = v.items.length := by omega
      subst hi'
      rw [preA_end]
      simp (implicitDefEqProofs := false) (disch := omega) only [go_sem, simprocAttr, go_sem, Nat.le_refl, Int.toNat_natCast, Int.toNat_zero, Int.toNat_one, str_eq, cellsV, decide_true, Bool.not_true, Bool.not_false, encP_all, encT_one, encT_app, Tryd.results17]
      rw [hrr]
set_option maxHeartbeats 4000000 in
theorem psame_ok (a b : List ByteArray) (ha : a.length ≤ 1000000) (hb : b.length ≤ 1000000) : Ok Tryd.prog 20 [.sl (encT a), .sl (encT b)] (vB (decide (a = b))) := by
  obtain ⟨al, hal⟩ : ∃ al, decide (a = b) = al := ⟨_, rfl⟩
  rw [hal]
  refine Ok.of_pwp (by kernel_rfl) Tryd.func20 rfl (by kernel_rfl) (by kernel_rfl) ?_
  by_cases hl : a.length = b.length
  · simp (implicitDefEqProofs := false) (disch := omega) only [go_sem, simprocAttr, go_sem, Nat.le_refl, Int.toNat_natCast, Int.toNat_zero, Int.toNat_one, str_eq, cellsV, decide_true, Bool.not_true, Bool.not_false, Tryd.results20]
    refine p_loop (ι := { i : Nat // i ≤ a.length ∧ ∀ j, j < i → a.getD j ByteArray.empty = b.getD j ByteArray.empty }) (fun i => ⟨[(13, vI i.1), (12, vI a.length), (0, .sl (encT a)), (1, .sl (encT b))], [], [], 0, 0⟩) (fun i => a.length - i.1) ⟨0, Nat.zero_le _, fun j h => by omega⟩ ?_ ?_
    · refine ⟨?_, ?_, ?_, ?_, ?_, ?_, ?_⟩ <;> simp only [go_sem, simprocAttr, decide_eq_true_eq, Int.natCast_zero] <;> try first | omega | ((repeat' (first | exact And.intro rfl (by omega) | (refine And.intro ?_ ?_))) <;> first | rfl | omega | (congr 3; omega) | (congr 2; omega))
    · rintro ⟨i, k1, k2⟩
      simp only
      by_cases hi : i < a.length
      · by_cases he : a.getD i ByteArray.empty = b.getD i ByteArray.empty
        · have hed : decide ((a.getD i ByteArray.empty).data.toList = (b.getD i ByteArray.empty).data.toList) = true := decide_eq_true (by rw [he])
          simp (implicitDefEqProofs := false) (disch := omega) only [go_sem, simprocAttr, go_sem, Nat.le_refl, Int.toNat_natCast, Int.toNat_zero, Int.toNat_one, str_eq, cellsV, decide_true, Bool.not_true, Bool.not_false, Tryd.results20]
          refine ⟨⟨i + 1, hi, fun j hj => by
            by_cases e : j = i
            · subst e; exact he
            · exact k2 j (by omega)⟩, by simp only; omega, ?_⟩
          refine ⟨?_, ?_, ?_, ?_, ?_, ?_, ?_⟩ <;> simp only [go_sem, simprocAttr, decide_eq_true_eq, Int.natCast_add, Int.natCast_one] <;> try first | omega | ((repeat' (first | exact And.intro rfl (by omega) | (refine And.intro ?_ ?_))) <;> first | rfl | omega | (congr 3; omega) | (congr 2; omega))
        · have e : al = false := by rw [← hal]; exact decide_eq_false (fun h => he (by rw [h]))
          subst e
          have hed : decide ((a.getD i ByteArray.empty) = (b.getD i ByteArray.empty)) = false := decide_eq_false he
          simp (implicitDefEqProofs := false) (disch := omega) only [go_sem, simprocAttr, go_sem, Nat.le_refl, Int.toNat_natCast, Int.toNat_zero, Int.toNat_one, str_eq, cellsV, decide_true, Bool.not_true, Bool.not_false, Tryd.results20]
          first | done | (simp only [hed]; simp (implicitDefEqProofs := false) (disch := omega) only [go_sem, simprocAttr, go_sem, Nat.le_refl, Int.toNat_natCast, Int.toNat_zero, Int.toNat_one, str_eq, cellsV, decide_true, Bool.not_true, Bool.not_false, Tryd.results20])
      · have e : al = true := by
          rw [← hal]
          refine decide_eq_true (List.ext_getElem hl fun j h1 h2 => ?_)
          have := k2 j (by omega)
          rw [List.getD_eq_getElem?_getD, List.getD_eq_getElem?_getD, List.getElem?_eq_getElem h1, List.getElem?_eq_getElem h2] at this
          exact this
        subst e
        simp (implicitDefEqProofs := false) (disch := omega) only [go_sem, simprocAttr, go_sem, Nat.le_refl, Int.toNat_natCast, Int.toNat_zero, Int.toNat_one, str_eq, cellsV, decide_true, Bool.not_true, Bool.not_false, Tryd.results20]
  · have e : al = false := by rw [← hal]; exact decide_eq_false (fun h => hl (by rw [h]))
    subst e
    simp (implicitDefEqProofs := false) (disch := omega) only [go_sem, simprocAttr, go_sem, Nat.le_refl, Int.toNat_natCast, Int.toNat_zero, Int.toNat_one, str_eq, cellsV, decide_true, Bool.not_true, Bool.not_false, Tryd.results20]
theorem begins_ok (p q : List ByteArray) (hp : p.length ≤ 1000000) (hq : q.length ≤ 1000000) : Ok Tryd.prog 24 [.sl (encT p), .sl (encT q)] (vB (decide (q <+: p))) := by
  refine Ok.of_pwp (by kernel_rfl) Tryd.func24 rfl (by kernel_rfl) (by kernel_rfl) ?_
  by_cases hl : q.length ≤ p.length
  · have c1 := psame_ok (p.take q.length) q (by rw [List.length_take]; omega) hq
    have e : decide (p.take q.length = q) = decide (q <+: p) := by
      congr 1
      rw [List.prefix_iff_eq_take]
      exact propext ⟨fun h => h.symm, fun h => h.symm⟩
    rw [e] at c1
    simp (implicitDefEqProofs := false) (disch := omega) only [go_sem, simprocAttr, go_sem, Nat.le_refl, Int.toNat_natCast, Int.toNat_zero, Int.toNat_one, str_eq, cellsV, decide_true, Bool.not_true, Bool.not_false, Tryd.results24, encT_take, encT_len]
    with_reducible refine CallOk.of c1 rfl ?_
    simp (implicitDefEqProofs := false) (disch := omega) only [go_sem, simprocAttr, go_sem, Nat.le_refl, Int.toNat_natCast, Int.toNat_zero, Int.toNat_one, str_eq, cellsV, decide_true, Bool.not_true, Bool.not_false, Tryd.results24, encT_take, encT_len]
  · have e : decide (q <+: p) = false := decide_eq_false (fun h => hl h.length_le)
    rw [e]
    simp (implicitDefEqProofs := false) (disch := omega) only [go_sem, simprocAttr, go_sem, Nat.le_refl, Int.toNat_natCast, Int.toNat_zero, Int.toNat_one, str_eq, cellsV, decide_true, Bool.not_true, Bool.not_false, Tryd.results24, encT_take, encT_len]
/-- A path of a value, by a number. -/
def pickV (v : V) (n : Nat) : List ByteArray := ((allV v []).getD (n % (allV v []).length) default).1
theorem encP_get {l : List Part} {i : Nat} (h : i < l.length) : (encP l).getD i [] = cellsP (l.getD i default) := by
  rw [List.getD_eq_getElem?_getD, List.getD_eq_getElem?_getD, encP, List.getElem?_map, List.getElem?_eq_getElem h]; rfl
theorem ix_P {a : List Part} {i : Int} {K : PV → Prop} (h0 : 0 ≤ i) (h1 : i < (a.length : Int)) : ixP 7 i K (.sl (encP a)) = K (.fp (cellsP (a.getD i.toNat default))) := by
  have hi : i.toNat < a.length := by omega
  show (0 ≤ i ∧ i < ((encP a).length : Int) ∧ ((encP a).getD i.toNat []).length = 7 ∧ K (.fp ((encP a).getD i.toNat []))) = _
  rw [encP_len, encP_get hi]
  exact propext ⟨fun h => h.2.2.2, fun h => ⟨h0, h1, rfl, h⟩⟩
attribute [go_sem ↓ 2000] ix_P
theorem pick_ok (v : V) (gv : GV v) (n : Int) (h0 : 0 ≤ n) (h1 : n ≤ 65535) : Ok Tryd.prog 21 [.agg (cellsV v), .val (.int .u16 n)] (.sl (encT (pickV v n.toNat))) := by
  have c1 := all_ok v gv [] (by have := gv.2; simp; omega)
  rw [encT_nil] at c1
  simp only [cellsV] at c1
  have hl := allV_len v []
  have hn := nV_le v
  have hv6 := gv.2
  have hpos : 0 < (allV v []).length := by rw [allV_eq, List.length_cons]; omega
  unfold pickV
  generalize allV v [] = A at *
  have e : n.tmod (A.length : Int) = ((n.toNat % A.length : Nat) : Int) := by
    rw [tmodE h0, Int.natCast_emod, Int.toNat_of_nonneg h0]
  have hlt := Nat.mod_lt n.toNat hpos
  refine Ok.of_pwp (by kernel_rfl) Tryd.func21 rfl (by kernel_rfl) (by kernel_rfl) ?_
  simp (implicitDefEqProofs := false) (disch := omega) only [go_sem, simprocAttr, go_sem, Nat.le_refl, Int.toNat_natCast, Int.toNat_zero, Int.toNat_one, str_eq, cellsV, decide_true, Bool.not_true, Bool.not_false, Tryd.results21, encP_len, cellsP, encP_get, List.getElem?_cons_zero]
  with_reducible refine CallOk.of c1 rfl ?_
  simp (implicitDefEqProofs := false) (disch := omega) only [go_sem, simprocAttr, go_sem, Nat.le_refl, Int.toNat_natCast, Int.toNat_zero, Int.toNat_one, str_eq, cellsV, decide_true, Bool.not_true, Bool.not_false, Tryd.results21, encP_len, cellsP, encP_get, List.getElem?_cons_zero]
  simp only [e]
  generalize n.toNat % A.length = m at *
  simp (implicitDefEqProofs := false) (disch := omega) only [go_sem, simprocAttr, go_sem, Nat.le_refl, Int.toNat_natCast, Int.toNat_zero, Int.toNat_one, str_eq, cellsV, decide_true, Bool.not_true, Bool.not_false, Tryd.results21, encP_len, cellsP, encP_get, List.getElem?_cons_zero]
end Go.Proofs.YtahgjolokkfhjaaDoor

end
section
/-
  How a law's arguments read: numbers, truths, texts, slices and structs of such.
-/
namespace Go.Pw
open Go Go.RowKit
set_option linter.unusedVariables false
set_option linter.unusedSimpArgs false
/-- Cells read as these. -/
def CellsRep (w : World) (cs : List Value) (ps : List PV) : Prop := cs.length = ps.length ∧ ∀ (i : Nat) (c : Value) (p : PV), cs[i]? = some c → ps[i]? = some p → RepF (memCells w) c p
section
variable {H : Type} {en : TypeId × Value → H} {P : Program} {w : World} {base : Nat} {spare : Nat → Bool} {held : Bool}
/-- What lies in memory at a type reads as a datum. -/
def Rd {H : Type} (en : TypeId × Value → H) (P : Program) (w : World) (base : Nat) (spare : Nat → Bool) (held : Bool) (t : TypeId) {α : Type} (e : α → List PV) (ok : α → Prop) : Prop :=
  ∀ (fuel : Nat) (cs : List Value) (x : DataW H × List MemPlace), DataW.trod en P w base spare held fuel t cs = some x → ∃ a, ok a ∧ CellsRep w cs (e a)
theorem CellsRep.one {c : Value} {p : PV} (h : RepF (memCells w) c p) : CellsRep w [c] [p] :=
  ⟨rfl, fun i c' p' h1 h2 => by
    cases i with
    | zero => simp at h1 h2; subst h1 h2; exact h
    | succ i => simp at h1⟩
theorem Rd.int {t : TypeId} {k : IntKind} (ht : P.underlying t = some (.int k)) : Rd en P w base spare held t (fun n : Int => [.val (.int k n)]) (fun n => (Lit.int k n).wf = true) := fun fuel cs x h => by
  obtain ⟨n, rfl, _, hw⟩ := DataW.trod_int ht h
  exact ⟨n, hw, .one (.val rfl)⟩
theorem Rd.string {t : TypeId} (ht : P.underlying t = some .string) : Rd en P w base spare held t (fun s : ByteArray => [vS s]) (fun s => s.size ≤ maxLen) := fun fuel cs x h => by
  obtain ⟨n, rfl, _, hw⟩ := DataW.trod_string ht h
  exact ⟨n, hw, .one (.val rfl)⟩
theorem Rd.map {t : TypeId} {α β : Type} {e : α → List PV} {ok : α → Prop} {e' : β → List PV} {ok' : β → Prop} (h : Rd en P w base spare held t e ok) (g : α → β) (he : ∀ a, e a = e' (g a)) (hk : ∀ a, ok a → ok' (g a)) : Rd en P w base spare held t e' ok' := fun fuel cs x hx => by
  obtain ⟨a, h1, h2⟩ := h fuel cs x hx
  exact ⟨g a, hk a h1, by rw [← he]; exact h2⟩
theorem list_of {α : Type} {p : Nat → α → Prop} : ∀ (n : Nat), (∀ i, i < n → ∃ a, p i a) → ∃ l : List α, l.length = n ∧ ∀ (i : Nat) (a : α), l[i]? = some a → p i a
  | 0, _ => ⟨[], rfl, fun i a h => by simp at h⟩
  | n + 1, h => by
    obtain ⟨l, h1, h2⟩ := list_of n (fun i hi => h i (by omega))
    obtain ⟨a, ha⟩ := h n (by omega)
    refine ⟨l ++ [a], by simp [h1], fun i b hb => ?_⟩
    by_cases hi : i < n
    · rw [List.getElem?_append_left (by omega)] at hb
      exact h2 i b hb
    · have : i = n := by
        have := (List.getElem?_eq_some_iff.1 hb).1
        simp at this
        omega
      subst this
      rw [List.getElem?_append_right (by omega), h1] at hb
      simp at hb
      subst hb
      exact ha
theorem cells?_get {a : Addr} {n : Nat} {cs : List Value} (h : w.cells? base a n = some cs) : cs.length = n ∧ ∀ j, j < n → w.cell? (a.add j) = cs[j]? := by
  unfold World.cells? at h
  split at h
  · have h1 := mapM_some_length h
    refine ⟨by simpa using h1, fun j hj => ?_⟩
    exact mapM_some_get h j j (by simp [hj])
  · cases h
theorem spot_none {a : Addr} {v : Value} (h : w.cell? a = some v) : a.spot = none := by
  unfold World.cell? at h
  split at h
  · split at h
    · cases h
    · rename_i hn
      cases hs : a.spot with
      | none => rfl
      | some x => rw [hs] at hn; simp at hn
  · cases h
theorem Rd.slice {t e : TypeId} {α : Type} {en' : α → List PV} {ok : α → Prop} {sz : Nat} (ht : P.underlying t = some (.slice e)) (hc : P.cellsOf e = sz) (h0 : 0 < sz) (hl : ∀ a, (en' a).length = sz) (h : Rd en P w base spare held e en' ok) :
    Rd en P w base spare held t (fun l : List α => [.sl (l.map en')]) (fun l => l.length ≤ maxLen ∧ ∀ a ∈ l, ok a) := fun fuel cs x hx => by
  rcases DataW.trod_slice ht hx with ⟨rfl, _⟩ | ⟨a, len, cap, elems, rest, n, _, rfl, _, _, hlc, hm, hlen, hel, _, _⟩
  · exact ⟨[], ⟨Nat.zero_le _, fun a ha => by cases ha⟩, .one (.sl (sz := 1) (fun _ _ => .nilIface) rfl (Nat.le_refl _) (by simp) (by simp) (by simp))⟩
  · have each : ∀ i, i < len → ∃ b : α, ok b ∧ ∃ ci, w.cells? base (a.add (i * sz)) sz = some ci ∧ CellsRep w ci (en' b) := fun i hi => by
      have h1 := hel i hi
      rw [hc] at h1
      have h2 : elems[i]? = some elems[i] := List.getElem?_eq_getElem (by omega)
      rw [h2, Option.bind_eq_some_iff] at h1
      obtain ⟨ci, h3, h4⟩ := h1
      obtain ⟨b, hb1, hb2⟩ := h n ci _ h4
      exact ⟨b, hb1, ci, h3, hb2⟩
    obtain ⟨l, l1, l2⟩ := list_of len each
    refine ⟨l, ⟨by omega, fun b hb => ?_⟩, .one ?_⟩
    · obtain ⟨i, hi⟩ := List.mem_iff_getElem?.1 hb
      exact (l2 i b hi).1
    · have spot : 0 < len → a = ⟨a.block, a.off, none⟩ := fun hp => by
        obtain ⟨b, _, ci, h3, h4⟩ := each 0 hp
        obtain ⟨g1, g2⟩ := cells?_get h3
        have h5 := g2 0 h0
        have h6 : ci[0]? = some (ci[0]'(by omega)) := List.getElem?_eq_getElem (by omega)
        rw [h6] at h5
        have e0 : (a.add (0 * sz)).add 0 = a := by simp [Addr.add]
        rw [e0] at h5
        have := spot_none h5
        cases a; simp at this; subst this; rfl
      refine .sl (sz := sz) (fun i j => (w.cell? ⟨a.block, a.off + (i * sz + j), none⟩).getD undef) (by simp [l1]) hlc (fun x hx => ?_) (fun hp => ⟨a.block, a.off, congrArg some (spot hp), fun i j hi hj => ?_⟩) (fun i j x p hx hp => ?_)
      · obtain ⟨b, _, rfl⟩ := List.mem_map.1 hx
        exact hl b
      · obtain ⟨b, _, ci, h3, h4⟩ := each i hi
        obtain ⟨g1, g2⟩ := cells?_get h3
        have h5 := g2 j hj
        have h6 : ci[j]? = some (ci[j]'(by omega)) := List.getElem?_eq_getElem (by omega)
        rw [h6, spot (by omega), Addr.add_lit, Addr.add_lit, Nat.add_assoc] at h5
        show w.cell? _ = _
        rw [h5]; rfl
      · rw [List.getElem?_map] at hx
        cases hli : l[i]? with
        | none => rw [hli] at hx; cases hx
        | some b =>
          rw [hli] at hx
          obtain rfl := Option.some.inj hx
          obtain ⟨_, ci, h3, h4⟩ := l2 i b hli
          have hi : i < len := by rw [← l1]; exact (List.getElem?_eq_some_iff.1 hli).1
          have hj : j < sz := by rw [← hl b]; exact (List.getElem?_eq_some_iff.1 hp).1
          obtain ⟨g1, g2⟩ := cells?_get h3
          have h5 := g2 j hj
          have h6 : ci[j]? = some (ci[j]'(by omega)) := List.getElem?_eq_getElem (by omega)
          rw [h6, spot (by omega), Addr.add_lit, Addr.add_lit, Nat.add_assoc] at h5
          rw [h5]
          exact h4.2 j _ p h6 hp
theorem Rd.bool {t : TypeId} (ht : P.underlying t = some .bool) : Rd en P w base spare held t (fun b : Bool => [vB b]) (fun _ => True) := fun fuel cs x h => by
  obtain ⟨b, rfl, _⟩ := DataW.trod_bool ht h
  exact ⟨b, trivial, .one (.val rfl)⟩
/-- A struct of two fields of one cell each. -/
theorem Rd.struct2 {t : TypeId} {fs : Array Field} {f0 f1 : Field} {α0 α1 : Type} {e0 : α0 → PV} {e1 : α1 → PV} {o0 : α0 → Prop} {o1 : α1 → Prop}
    (ht : P.underlying t = some (.struct fs)) (hfs : fs = #[f0, f1]) (hn : P.cellsOf t = 2)
    (g0 : f0.offset = 0) (g1 : f1.offset = 1) (c0 : P.cellsOf f0.type = 1) (c1 : P.cellsOf f1.type = 1)
    (h0 : Rd en P w base spare held f0.type (fun a => [e0 a]) o0) (h1 : Rd en P w base spare held f1.type (fun a => [e1 a]) o1) :
    Rd en P w base spare held t (fun a : α0 × α1 => [e0 a.1, e1 a.2]) (fun a => o0 a.1 ∧ o1 a.2) := fun fuel cs x hx => by
  subst hfs
  obtain ⟨xs, n, _, _, hl, hxl, hget⟩ := DataW.trod_struct ht hx
  rw [hn] at hl
  have hxl : xs.length = 2 := hxl
  match cs, hl with
  | [v0, v1], _ =>
  match xs, hxl with
  | [x0, x1], _ =>
  have q0 := hget 0 f0 rfl
  have q1 := hget 1 f1 rfl
  rw [g0, c0] at q0
  rw [g1, c1] at q1
  obtain ⟨a0, k0, r0⟩ := h0 n _ x0 q0
  obtain ⟨a1, k1, r1⟩ := h1 n _ x1 q1
  refine ⟨(a0, a1), ⟨k0, k1⟩, rfl, fun i c p hc hp => ?_⟩
  match i with
  | 0 => simp at hc hp; subst hc hp; exact r0.2 0 _ _ rfl rfl
  | 1 => simp at hc hp; subst hc hp; exact r1.2 0 _ _ rfl rfl
  | i + 2 => simp at hc
/-- An array of two elements of one cell each. -/
theorem Rd.array2 {t e : TypeId} {α : Type} {e0 : α → PV} {ok : α → Prop} (ht : P.underlying t = some (.array 2 e)) (hn : P.cellsOf t = 2) (hc : P.cellsOf e = 1) (h : Rd en P w base spare held e (fun a => [e0 a]) ok) :
    Rd en P w base spare held t (fun a : α × α => [e0 a.1, e0 a.2]) (fun a => ok a.1 ∧ ok a.2) := fun fuel cs x hx => by
  obtain ⟨xs, n, _, _, hl, hxl, hget⟩ := DataW.trod_array ht hx
  rw [hn] at hl
  match cs, hl with
  | [v0, v1], _ =>
  match xs, hxl with
  | [x0, x1], _ =>
  have q0 := hget 0 (by omega)
  have q1 := hget 1 (by omega)
  rw [hc] at q0 q1
  obtain ⟨a0, k0, r0⟩ := h n _ x0 q0
  obtain ⟨a1, k1, r1⟩ := h n _ x1 q1
  refine ⟨(a0, a1), ⟨k0, k1⟩, rfl, fun i c p hc hp => ?_⟩
  match i with
  | 0 => simp at hc hp; subst hc hp; exact r0.2 0 _ _ rfl rfl
  | 1 => simp at hc hp; subst hc hp; exact r1.2 0 _ _ rfl rfl
  | i + 2 => simp at hc
theorem okWide_array' {t e : TypeId} {n : Nat} {r : Reach} {v : Value} (ht : P.underlying t = some (.array n e)) (h : Value.okWide P w r base t v) : ∃ cs, v = .agg cs ∧ cs.size = P.cellsOf t := by
  simp only [Value.okWide, ht] at h
  obtain ⟨cs, h1, h2, _⟩ := h
  exact ⟨cs, h1, h2⟩
/-- A struct of 5 fields of one cell each. -/
theorem Rd.struct5 {t : TypeId} {fs : Array Field} {f0 f1 f2 f3 f4 : Field} {α0 α1 α2 α3 α4 : Type} {e0 : α0 → PV} {e1 : α1 → PV} {e2 : α2 → PV} {e3 : α3 → PV} {e4 : α4 → PV} {o0 : α0 → Prop} {o1 : α1 → Prop} {o2 : α2 → Prop} {o3 : α3 → Prop} {o4 : α4 → Prop}
    (ht : P.underlying t = some (.struct fs)) (hfs : fs = #[f0, f1, f2, f3, f4]) (hn : P.cellsOf t = 5)
    (g0 : f0.offset = 0) (g1 : f1.offset = 1) (g2 : f2.offset = 2) (g3 : f3.offset = 3) (g4 : f4.offset = 4)
    (c0 : P.cellsOf f0.type = 1) (c1 : P.cellsOf f1.type = 1) (c2 : P.cellsOf f2.type = 1) (c3 : P.cellsOf f3.type = 1) (c4 : P.cellsOf f4.type = 1)
    (h0 : Rd en P w base spare held f0.type (fun a => [e0 a]) o0) (h1 : Rd en P w base spare held f1.type (fun a => [e1 a]) o1) (h2 : Rd en P w base spare held f2.type (fun a => [e2 a]) o2) (h3 : Rd en P w base spare held f3.type (fun a => [e3 a]) o3) (h4 : Rd en P w base spare held f4.type (fun a => [e4 a]) o4) :
    Rd en P w base spare held t (fun a : α0 × α1 × α2 × α3 × α4 => [e0 a.1, e1 a.2.1, e2 a.2.2.1, e3 a.2.2.2.1, e4 a.2.2.2.2]) (fun a => o0 a.1 ∧ o1 a.2.1 ∧ o2 a.2.2.1 ∧ o3 a.2.2.2.1 ∧ o4 a.2.2.2.2) := fun fuel cs x hx => by
  subst hfs
  obtain ⟨xs, n, _, _, hl, hxl, hget⟩ := DataW.trod_struct ht hx
  rw [hn] at hl
  have hxl : xs.length = 5 := hxl
  match cs, hl with
  | [v0, v1, v2, v3, v4], _ =>
  match xs, hxl with
  | [x0, x1, x2, x3, x4], _ =>
  have q0 := hget 0 f0 rfl
  have q1 := hget 1 f1 rfl
  have q2 := hget 2 f2 rfl
  have q3 := hget 3 f3 rfl
  have q4 := hget 4 f4 rfl
  rw [g0, c0] at q0
  rw [g1, c1] at q1
  rw [g2, c2] at q2
  rw [g3, c3] at q3
  rw [g4, c4] at q4
  obtain ⟨a0, k0, r0⟩ := h0 n _ x0 q0
  obtain ⟨a1, k1, r1⟩ := h1 n _ x1 q1
  obtain ⟨a2, k2, r2⟩ := h2 n _ x2 q2
  obtain ⟨a3, k3, r3⟩ := h3 n _ x3 q3
  obtain ⟨a4, k4, r4⟩ := h4 n _ x4 q4
  refine ⟨(a0, a1, a2, a3, a4), ⟨k0, k1, k2, k3, k4⟩, rfl, fun i c p hc hp => ?_⟩
  match i with
  | 0 => simp at hc hp; subst hc hp; exact r0.2 0 _ _ rfl rfl
  | 1 => simp at hc hp; subst hc hp; exact r1.2 0 _ _ rfl rfl
  | 2 => simp at hc hp; subst hc hp; exact r2.2 0 _ _ rfl rfl
  | 3 => simp at hc hp; subst hc hp; exact r3.2 0 _ _ rfl rfl
  | 4 => simp at hc hp; subst hc hp; exact r4.2 0 _ _ rfl rfl
  | i + 5 => simp at hc
/-- A value of one cell, as an argument. -/
theorem CellsRep.arg {v : Value} {p : PV} (h1 : v.oneCell' = true) (h : CellsRep w v.cells.toList [p]) : RepA (memCells w) v p := by
  have e : v.cells = #[v] := by cases v <;> first | rfl | simp [Value.oneCell'] at h1
  rw [e] at h
  exact .frz (h.2 0 v p rfl rfl)
theorem CellsRep.aggr {vs : Array Value} {ps : List PV} (h : CellsRep w vs.toList ps) : RepA (memCells w) (.agg vs) (.agg ps) :=
  .agg (by simpa using h.1) (fun i v p hv hp => .frz (h.2 i v p (by simpa using hv) hp)) (fun i v hv => by
    have hi : i < ps.length := by
      have := (Array.getElem?_eq_some_iff.1 hv).1
      have h1 := h.1
      simp at h1
      omega
    exact (h.2 i v _ (by simpa using hv) (List.getElem?_eq_getElem hi)).one)
end
end Go.Pw

end
