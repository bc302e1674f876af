/-
  Contracts and plain laws on the way to the statement; each says its own conditions.
-/
import Derived.Test.YtahgjolokkfhjaaDoorGP16
import Derived.Test.YtahgjolokkfhjaaDoorGP17
import Derived.Test.YtahgjolokkfhjaaDoorGP18
import Derived.Test.YtahgjolokkfhjaaDoorGP19
import Derived.Test.YtahgjolokkfhjaaDoorGP15
import Derived.Test.YtahgjolokkfhjaaDoorGP3
import Derived.ChangeSlices
import Derived.ChangeArms
import Derived.OpenShut
section
/-
  A value's copy: its contracts.
-/
open Go Go.Proofs Go.Pw Go.RowKit
namespace Go.Proofs.YtahgjolokkfhjaaDoor
set_option maxRecDepth 4000
set_option linter.unusedVariables false
set_option linter.unusedSimpArgs false
theorem copy_sub (v : V) (hv : szV v ≤ 1000000) (hsub : ∀ u ∈ v.items, Ok Tryd.prog 38 [.agg (cellsV u)] (.agg (cellsV u))) : OkH Tryd.prog 38 [.agg (cellsV v)] (CopyQ v) := by
  obtain ⟨hl, hl2, hx, hs⟩ := V.small hv
  obtain ⟨k, b, n, s, is, ks⟩ := v
  rw [V.items_mk] at hl hsub
  rw [V.keys_mk] at hl2
  cases is with
  | nil => cases ks with
    | nil => exact c11_H k b n s default [] ByteArray.empty [] hsub (by decide) (by decide)
    | cons y ys => exact c01_H k b n s default [] y ys hsub (by decide) hl2
  | cons x xs => cases ks with
    | nil => exact c10_H k b n s x xs ByteArray.empty [] hsub hl (by decide)
    | cons y ys => exact c00_H k b n s x xs y ys hsub hl hl2
theorem fz_msV {iI cI iK cK : Nat} {rI rK : List PV} (hne : iI ≠ iK) (l : List V) (ks : List ByteArray) : fzH Tryd.prog (hpV iI rI l ++ hpT iK rK ks) (msV iI cI l) = some (.sl (encV l)) := by
  cases l with
  | nil => rw [encV_nil]; rfl
  | cons x r =>
    simp only [msV, hpV, fzH, List.cons_append, List.nil_append, lkp, if_true, show sizeOf? Tryd.prog 32 = some 6 from rfl, List.drop_zero]
    rw [if_pos ⟨by decide, by rw [List.length_append, flatV_len]; omega⟩, chunksV, fz_encV]; rfl
theorem fz_msT {iI cI iK cK : Nat} {rI rK : List PV} (hne : iI ≠ iK) (l : List V) (ks : List ByteArray) : fzH Tryd.prog (hpV iI rI l ++ hpT iK rK ks) (msT iK cK ks) = some (.sl (encT ks)) := by
  cases ks with
  | nil => rfl
  | cons y r =>
    have h1 : lkp (hpV iI rI l ++ hpT iK rK (y :: r)) iK = some (.box 9 (flatT (y :: r) ++ rK)) := by
      cases l with
      | nil => simp [hpV, hpT, lkp]
      | cons x q => simp [hpV, hpT, lkp, Ne.symm hne]
    simp only [msT, fzH, h1, show sizeOf? Tryd.prog 9 = some 1 from rfl, List.drop_zero]
    rw [if_pos ⟨by decide, by rw [List.length_append, flatT_len]; omega⟩, chunksT, fz_encT]; rfl
theorem copy_fz (v : V) : ∀ r s, CopyQ v r s → fzHA Tryd.prog s.heap r = some (.agg (cellsV v)) := by
  rintro r s ⟨iI, cI, rI, iK, cK, rK, nx, nt, hne, _, _, _, _, _, _, _, _, _, _, rfl, rfl⟩
  have c : ∀ {h : List (Nat × PObj)} {p q : PV} {l m : List PV}, fzH Tryd.prog h p = some q → fzHL Tryd.prog h l = some m → fzHL Tryd.prog h (p :: l) = some (q :: m) := fun h1 h2 => by rw [fzHL, h1, h2]
  rw [fzHA, c (q := vI v.kind) rfl (c (q := vB v.b) rfl (c (q := vI v.n) rfl (c (q := vS v.s) rfl (c (fz_msV (cK := 0) hne _ _) (c (fz_msT (cI := 0) hne _ _) rfl)))))]
  rfl
/-- A copy is the same. -/
theorem copy_ok : ∀ v, szV v ≤ 1000000 → Ok Tryd.prog 38 [.agg (cellsV v)] (.agg (cellsV v)) := by
  refine V.ind fun v ih hv => ?_
  obtain ⟨hl, hl2, hx, hs⟩ := V.small hv
  exact Ok.ofH (copy_sub v hv (fun u hu => ih u hu (hx u hu))) (copy_fz v)
/-- A copy, in memory of its own. -/
theorem copy_H (v : V) (hv : szV v ≤ 1000000) : OkH Tryd.prog 38 [.agg (cellsV v)] (CopyQ v) := by
  obtain ⟨hl, hl2, hx, hs⟩ := V.small hv
  exact copy_sub v hv (fun u hu => copy_ok u (hx u hu))
end Go.Proofs.YtahgjolokkfhjaaDoor

end
section
/-
  Chapter 4: steps; what a path leads to.
-/
open Go Go.Proofs Go.Pw Go.RowKit
namespace Go.Proofs.YtahgjolokkfhjaaDoor
set_option maxRecDepth 4000
set_option linter.unusedVariables false
set_option linter.unusedSimpArgs false
def stepB (s : ByteArray) : Bool := decide (s.size ≤ 60) && isT s
def stepsB (p : List ByteArray) : Bool := p.all stepB && decide (p.length ≤ 10)
theorem allT_of {q : ByteArray → Bool} {l : List ByteArray} (h : ∀ j, j < l.length → q (l.getD j ByteArray.empty) = true) : l.all q = true := by
  rw [List.all_eq_true]
  intro x hx
  obtain ⟨j, hj, rfl⟩ := List.mem_iff_getElem.1 hx
  have := h j hj
  rw [List.getD_eq_getElem?_getD, List.getElem?_eq_getElem hj] at this
  exact this
theorem allT_no {q : ByteArray → Bool} {l : List ByteArray} {j : Nat} (hj : j < l.length) (h : q (l.getD j ByteArray.empty) = false) : l.all q = false := by
  apply Bool.eq_false_iff.2
  intro k
  rw [List.all_eq_true] at k
  have := k (l.getD j ByteArray.empty) (by rw [List.getD_eq_getElem?_getD, List.getElem?_eq_getElem hj]; exact List.getElem_mem hj)
  rw [h] at this
  cases this
set_option maxHeartbeats 4000000 in
theorem steps_ok (p : List ByteArray) (hl : p.length ≤ 9223372036854775807) : Ok Tryd.prog 10 [.sl (encT p)] (vB (stepsB p)) := by
  unfold stepsB
  obtain ⟨al, hal⟩ : ∃ al, p.all stepB = al := ⟨_, rfl⟩
  rw [hal]
  refine Ok.of_pwp (by kernel_rfl) Tryd.func10 rfl (by kernel_rfl) (by kernel_rfl) ?_
  simp (implicitDefEqProofs := false) (disch := omega) only [go_sem, simprocAttr, go_sem, Nat.le_refl, Int.toNat_natCast, Int.toNat_zero, Int.toNat_one, str_eq, cellsV, decide_true, Bool.not_true, Bool.not_false, Tryd.results10]
  refine p_loop (ι := { i : Nat // i ≤ p.length ∧ ∀ j, j < i → stepB (p.getD j ByteArray.empty) = true }) (fun i => ⟨[(7, vI i.1), (6, vI p.length), (5, .sl (encT p)), (0, .sl (encT p))], [], [], 0, 0⟩) (fun i => p.length - i.1) ⟨0, Nat.zero_le _, fun j h => by omega⟩ ?_ ?_
  · refine ⟨?_, ?_, ?_, ?_, ?_, ?_, ?_⟩ <;> simp only [go_sem, simprocAttr, decide_eq_true_eq, Int.natCast_zero] <;> try first | omega | ((repeat' (first | exact And.intro rfl (by omega) | (refine And.intro ?_ ?_))) <;> first | rfl | omega | (congr 3; omega) | (congr 2; omega))
  · rintro ⟨i, k1, k2⟩
    simp only
    by_cases hi : i < p.length
    · by_cases hz : (p.getD i ByteArray.empty).size ≤ 60
      · have c0 := rvalid_ok (p.getD i ByteArray.empty) (by omega)
        cases ht : decide ((scan (p.getD i ByteArray.empty) 0).2 = (p.getD i ByteArray.empty).size) with
        | true =>
          rw [ht] at c0
          have hs : stepB (p.getD i ByteArray.empty) = true := by unfold stepB isT; rw [decide_eq_true hz, ht]; rfl
          simp (implicitDefEqProofs := false) (disch := omega) only [go_sem, simprocAttr, go_sem, Nat.le_refl, Int.toNat_natCast, Int.toNat_zero, Int.toNat_one, str_eq, cellsV, decide_true, Bool.not_true, Bool.not_false, Tryd.results10]
          with_reducible refine CallOk.of c0 rfl ?_
          simp (implicitDefEqProofs := false) (disch := omega) only [go_sem, simprocAttr, go_sem, Nat.le_refl, Int.toNat_natCast, Int.toNat_zero, Int.toNat_one, str_eq, cellsV, decide_true, Bool.not_true, Bool.not_false, Tryd.results10]
          refine ⟨⟨i + 1, by omega, fun j hj => by
            by_cases e : j = i
            · subst e; exact hs
            · exact k2 j (by omega)⟩, by simp only; omega, ?_⟩
          refine ⟨?_, ?_, ?_, ?_, ?_, ?_, ?_⟩ <;> simp only [go_sem, simprocAttr, decide_eq_true_eq, Int.natCast_add, Int.natCast_one] <;> try first | omega | ((repeat' (first | exact And.intro rfl (by omega) | (refine And.intro ?_ ?_))) <;> first | rfl | omega | (congr 3; omega) | (congr 2; omega))
        | false =>
          rw [ht] at c0
          have e : al = false := by rw [← hal]; exact allT_no hi (by unfold stepB isT; rw [ht, Bool.and_false])
          subst e
          simp (implicitDefEqProofs := false) (disch := omega) only [go_sem, simprocAttr, go_sem, Nat.le_refl, Int.toNat_natCast, Int.toNat_zero, Int.toNat_one, str_eq, cellsV, decide_true, Bool.not_true, Bool.not_false, Tryd.results10]
          with_reducible refine CallOk.of c0 rfl ?_
          simp (implicitDefEqProofs := false) (disch := omega) only [go_sem, simprocAttr, go_sem, Nat.le_refl, Int.toNat_natCast, Int.toNat_zero, Int.toNat_one, str_eq, cellsV, decide_true, Bool.not_true, Bool.not_false, Tryd.results10]
          try rfl
      · have e : al = false := by rw [← hal]; exact allT_no hi (by unfold stepB; rw [decide_eq_false hz]; rfl)
        subst e
        simp (implicitDefEqProofs := false) (disch := omega) only [go_sem, simprocAttr, go_sem, Nat.le_refl, Int.toNat_natCast, Int.toNat_zero, Int.toNat_one, str_eq, cellsV, decide_true, Bool.not_true, Bool.not_false, Tryd.results10]
        try rfl
    · have e : al = true := by rw [← hal]; exact allT_of (fun j hj => k2 j (by omega))
      subst e
      by_cases h10 : p.length ≤ 10
      · rw [decide_eq_true h10]
        simp (implicitDefEqProofs := false) (disch := omega) only [go_sem, simprocAttr, go_sem, Nat.le_refl, Int.toNat_natCast, Int.toNat_zero, Int.toNat_one, str_eq, cellsV, decide_true, Bool.not_true, Bool.not_false, Tryd.results10]
        first | done | rw [decide_eq_true (show ((p.length : Int) ≤ 10) by omega)] | rfl
      · rw [decide_eq_false h10]
        simp (implicitDefEqProofs := false) (disch := omega) only [go_sem, simprocAttr, go_sem, Nat.le_refl, Int.toNat_natCast, Int.toNat_zero, Int.toNat_one, str_eq, cellsV, decide_true, Bool.not_true, Bool.not_false, Tryd.results10]
        first | done | rw [decide_eq_false (show ¬ ((p.length : Int) ≤ 10) by omega)] | rfl
/-- A value that may be. -/
def GV (v : V) : Prop := goodB v = true ∧ szV v ≤ 1000000
theorem GV.sort {v : V} (h : GV v) : SortT v.keys := by
  have hg := h.1
  rw [goodB_eq] at hg
  simp only [Bool.and_eq_true] at hg
  have hk := hg.1.1.2
  unfold keyedB at hk
  simp only [Bool.and_eq_true] at hk
  exact (sortB_iff _).1 hk.1.2
theorem GV.lens {v : V} (h : GV v) : v.keys.length ≤ v.items.length := by
  have hg := h.1
  rw [goodB_eq] at hg
  simp only [Bool.and_eq_true] at hg
  have hbare := hg.1.1.1.2
  have hkey := hg.1.1.2
  unfold bareB at hbare
  unfold keyedB at hkey
  simp only [Bool.and_eq_true, Bool.or_eq_true, decide_eq_true_eq] at hbare hkey
  rcases hbare.2 with h | h
  · rcases hkey.2 with h' | h'
    · exact absurd h h'
    · omega
  · omega
theorem GV.item {v x : V} (h : GV v) (hx : x ∈ v.items) : GV x := by
  refine ⟨?_, (V.small h.2).2.2.1 x hx⟩
  have hg := h.1
  rw [goodB_eq] at hg
  simp only [Bool.and_eq_true, List.all_eq_true] at hg
  exact hg.2 x hx
theorem GV.at {v : V} {t : ByteArray} (h : GV v) (k : ¬ plc v t < 0) : (plc v t).toNat < v.items.length := by
  have hl := h.lens
  unfold plc at k ⊢
  split at k
  · split at k
    · rename_i h5 hf
      rw [if_pos h5, if_pos hf]
      unfold foundT at hf
      simp only [Bool.and_eq_true, decide_eq_true_eq] at hf
      omega
    · exact absurd (by decide) k
  · split at k
    · rename_i h5 h4
      rw [if_neg h5, if_pos h4]
      unfold ixT at k ⊢
      cases hf : (List.range v.items.length).find? (fun i : Nat => decide (sOf i = t)) with
      | none => rw [hf] at k; exact absurd (by decide) k
      | some i =>
        have := List.mem_range.1 (List.mem_of_find?_eq_some hf)
        simp only
        omega
    · exact absurd (by decide) k
theorem TreeOk.gv {v : V} (h : TreeOk v) : GV v := ⟨h.good, by have := h.sz; omega⟩
/-- What a path leads to. -/
def getV : V → List ByteArray → Option V
  | v, [] => some v
  | v, t :: r => if plc v t < 0 then none else getV (v.items.getD (plc v t).toNat default) r
theorem getV_step {v : V} {p : List ByteArray} {i : Nat} (h : i < p.length) : getV v (p.drop i) = if plc v (p.getD i ByteArray.empty) < 0 then none else getV (v.items.getD (plc v (p.getD i ByteArray.empty)).toNat default) (p.drop (i + 1)) := by
  have eg : p.getD i ByteArray.empty = p[i] := by rw [List.getD_eq_getElem?_getD, List.getElem?_eq_getElem h]; rfl
  rw [List.drop_eq_getElem_cons h, getV, eg]
def resG : Option V → PV
  | some v => .tup [.agg (cellsV v), vI 0]
  | none => .tup [.agg (cellsV vZero), vI 12]
def resB : Option V → PV
  | some v => .tup [.agg (cellsV v), vB true]
  | none => .tup [.agg (cellsV vZero), vB false]
end Go.Proofs.YtahgjolokkfhjaaDoor

end
section
/-
  Chapter 4: what a path leads to: the program's and the document's.
-/
open Go Go.Proofs Go.Pw Go.RowKit
namespace Go.Proofs.YtahgjolokkfhjaaDoor
set_option maxRecDepth 4000
set_option linter.unusedVariables false
set_option linter.unusedSimpArgs false
theorem vz_cells : cellsV vZero = [vI 0, vB false, vI 0, vS ByteArray.empty, .sl [], .sl []] := by simp only [cellsV, vZero, V.kind_mk, V.b_mk, V.n_mk, V.s_mk, V.items_mk, V.keys_mk, encV_nil, encT_nil]
set_option maxHeartbeats 4000000 in
theorem get_ok (v : V) (p : List ByteArray) (hv : GV v) (hp : fewT p) (hl : p.length ≤ 1000000) : Ok Tryd.prog 12 [.agg (cellsV v), .sl (encT p)] (resG (getV v p)) := by
  refine Ok.of_pwp (by kernel_rfl) Tryd.func12 rfl (by kernel_rfl) (by kernel_rfl) ?_
  obtain ⟨R, hR⟩ : ∃ R, getV v p = R := ⟨_, rfl⟩
  rw [hR]
  simp (implicitDefEqProofs := false) (disch := omega) only [go_sem, simprocAttr, go_sem, Nat.le_refl, Int.toNat_natCast, Int.toNat_zero, Int.toNat_one, str_eq, cellsV, decide_true, Bool.not_true, Bool.not_false, Tryd.results12]
  refine p_loop (ι := { q : Nat × V // q.1 ≤ p.length ∧ GV q.2 ∧ getV q.2 (p.drop q.1) = R }) (fun q => ⟨[(11, vI q.1.1), (10, vI p.length), (9, .sl (encT p)), (4, .ptr 1 0), (2, .ptr 0 0)], [(1, .box 32 [vI 0, vB false, vI 0, vS ByteArray.empty, vNil, vNil]), (0, .box 32 (cellsV q.1.2))], [], 2, 0⟩) (fun q => p.length - q.1.1) ⟨(0, v), Nat.zero_le _, hv, hR⟩ ?_ ?_
  · refine ⟨?_, ?_, ?_, ?_, ?_, ?_, ?_⟩ <;> simp only [go_sem, simprocAttr, decide_eq_true_eq, Int.natCast_zero, cellsV] <;> try first | omega | ((repeat' (first | exact And.intro rfl (by omega) | (refine And.intro ?_ ?_))) <;> first | rfl | omega | (congr 3; omega) | (congr 2; omega))
  · rintro ⟨⟨i, u⟩, k1, k2, k3⟩
    simp only at k1 k2 k3 ⊢
    by_cases hi : i < p.length
    · rw [getV_step hi] at k3
      have c0 := place_ok u (p.getD i ByteArray.empty) k2.2 k2.sort (hp.get i)
      have hat := k2.at (t := p.getD i ByteArray.empty)
      simp only [cellsV] at c0
      by_cases hn : plc u (p.getD i ByteArray.empty) < 0
      · rw [if_pos hn] at k3
        subst k3
        unfold resG
        rw [vz_cells]
        simp (implicitDefEqProofs := false) (disch := omega) only [go_sem, simprocAttr, go_sem, Nat.le_refl, Int.toNat_natCast, Int.toNat_zero, Int.toNat_one, str_eq, cellsV, decide_true, Bool.not_true, Bool.not_false, Tryd.results12]
        with_reducible refine CallOk.of c0 rfl ?_
        simp (implicitDefEqProofs := false) (disch := omega) only [go_sem, simprocAttr, go_sem, Nat.le_refl, Int.toNat_natCast, Int.toNat_zero, Int.toNat_one, str_eq, cellsV, decide_true, Bool.not_true, Bool.not_false, Tryd.results12]
      · rw [if_neg hn] at k3
        have hlt := hat hn
        generalize plc u (p.getD i ByteArray.empty) = a at *
        simp (implicitDefEqProofs := false) (disch := omega) only [go_sem, simprocAttr, go_sem, Nat.le_refl, Int.toNat_natCast, Int.toNat_zero, Int.toNat_one, str_eq, cellsV, decide_true, Bool.not_true, Bool.not_false, Tryd.results12]
        with_reducible refine CallOk.of c0 rfl ?_
        simp (implicitDefEqProofs := false) (disch := omega) only [go_sem, simprocAttr, go_sem, Nat.le_refl, Int.toNat_natCast, Int.toNat_zero, Int.toNat_one, str_eq, cellsV, decide_true, Bool.not_true, Bool.not_false, Tryd.results12]
        refine ⟨⟨(i + 1, u.items.getD a.toNat default), hi, k2.item (getD_mem hlt), k3⟩, by simp only; omega, ?_⟩
        refine ⟨?_, ?_, ?_, ?_, ?_, ?_, ?_⟩ <;> simp only [go_sem, simprocAttr, decide_eq_true_eq, Int.natCast_add, Int.natCast_one, cellsV] <;> try first | omega | ((repeat' (first | exact And.intro rfl (by omega) | (refine And.intro ?_ ?_))) <;> first | rfl | omega | (congr 3; omega) | (congr 2; omega))
    · have hi' : i = p.length := by omega
      subst hi'
      rw [List.drop_length, getV] at k3
      subst k3
      have c1 := copy_ok u k2.2
      simp only [cellsV] at c1
      unfold resG
      simp (implicitDefEqProofs := false) (disch := omega) only [go_sem, simprocAttr, go_sem, Nat.le_refl, Int.toNat_natCast, Int.toNat_zero, Int.toNat_one, str_eq, cellsV, decide_true, Bool.not_true, Bool.not_false, Tryd.results12]
      with_reducible refine CallOk.of c1 rfl ?_
      simp (implicitDefEqProofs := false) (disch := omega) only [go_sem, simprocAttr, go_sem, Nat.le_refl, Int.toNat_natCast, Int.toNat_zero, Int.toNat_one, str_eq, cellsV, decide_true, Bool.not_true, Bool.not_false, Tryd.results12]
set_option maxHeartbeats 4000000 in
theorem rget_ok (v : V) (p : List ByteArray) (hv : GV v) (hp : fewT p) (hl : p.length ≤ 1000000) : Ok Tryd.prog 14 [.agg (cellsV v), .sl (encT p)] (resB (getV v p)) := by
  refine Ok.of_pwp (by kernel_rfl) Tryd.func14 rfl (by kernel_rfl) (by kernel_rfl) ?_
  obtain ⟨R, hR⟩ : ∃ R, getV v p = R := ⟨_, rfl⟩
  rw [hR]
  simp (implicitDefEqProofs := false) (disch := omega) only [go_sem, simprocAttr, go_sem, Nat.le_refl, Int.toNat_natCast, Int.toNat_zero, Int.toNat_one, str_eq, cellsV, decide_true, Bool.not_true, Bool.not_false, Tryd.results14]
  refine p_loop (ι := { q : Nat × V // q.1 ≤ p.length ∧ GV q.2 ∧ getV q.2 (p.drop q.1) = R }) (fun q => ⟨[(10, vI q.1.1), (9, vI p.length), (4, .ptr 1 0), (2, .ptr 0 0), (1, .sl (encT p))], [(1, .box 28 [vI 0, vB false, vI 0, vS ByteArray.empty, vNil, vNil]), (0, .box 28 (cellsV q.1.2))], [], 2, 0⟩) (fun q => p.length - q.1.1) ⟨(0, v), Nat.zero_le _, hv, hR⟩ ?_ ?_
  · refine ⟨?_, ?_, ?_, ?_, ?_, ?_, ?_⟩ <;> simp only [go_sem, simprocAttr, decide_eq_true_eq, Int.natCast_zero, cellsV] <;> try first | omega | ((repeat' (first | exact And.intro rfl (by omega) | (refine And.intro ?_ ?_))) <;> first | rfl | omega | (congr 3; omega) | (congr 2; omega))
  · rintro ⟨⟨i, u⟩, k1, k2, k3⟩
    simp only at k1 k2 k3 ⊢
    by_cases hi : i < p.length
    · rw [getV_step hi] at k3
      have c0 := rplace_ok u (p.getD i ByteArray.empty) k2.2 k2.sort (hp.get i)
      have hat := k2.at (t := p.getD i ByteArray.empty)
      simp only [cellsV] at c0
      by_cases hn : plc u (p.getD i ByteArray.empty) < 0
      · rw [if_pos hn] at k3
        subst k3
        unfold resB
        rw [vz_cells]
        simp (implicitDefEqProofs := false) (disch := omega) only [go_sem, simprocAttr, go_sem, Nat.le_refl, Int.toNat_natCast, Int.toNat_zero, Int.toNat_one, str_eq, cellsV, decide_true, Bool.not_true, Bool.not_false, Tryd.results14]
        with_reducible refine CallOk.of c0 rfl ?_
        simp (implicitDefEqProofs := false) (disch := omega) only [go_sem, simprocAttr, go_sem, Nat.le_refl, Int.toNat_natCast, Int.toNat_zero, Int.toNat_one, str_eq, cellsV, decide_true, Bool.not_true, Bool.not_false, Tryd.results14]
      · rw [if_neg hn] at k3
        have hlt := hat hn
        generalize plc u (p.getD i ByteArray.empty) = a at *
        simp (implicitDefEqProofs := false) (disch := omega) only [go_sem, simprocAttr, go_sem, Nat.le_refl, Int.toNat_natCast, Int.toNat_zero, Int.toNat_one, str_eq, cellsV, decide_true, Bool.not_true, Bool.not_false, Tryd.results14]
        with_reducible refine CallOk.of c0 rfl ?_
        simp (implicitDefEqProofs := false) (disch := omega) only [go_sem, simprocAttr, go_sem, Nat.le_refl, Int.toNat_natCast, Int.toNat_zero, Int.toNat_one, str_eq, cellsV, decide_true, Bool.not_true, Bool.not_false, Tryd.results14]
        refine ⟨⟨(i + 1, u.items.getD a.toNat default), hi, k2.item (getD_mem hlt), k3⟩, by simp only; omega, ?_⟩
        refine ⟨?_, ?_, ?_, ?_, ?_, ?_, ?_⟩ <;> simp only [go_sem, simprocAttr, decide_eq_true_eq, Int.natCast_add, Int.natCast_one, cellsV] <;> try first | omega | ((repeat' (first | exact And.intro rfl (by omega) | (refine And.intro ?_ ?_))) <;> first | rfl | omega | (congr 3; omega) | (congr 2; omega))
    · have hi' : i = p.length := by omega
      subst hi'
      rw [List.drop_length, getV] at k3
      subst k3
      unfold resB
      simp (implicitDefEqProofs := false) (disch := omega) only [go_sem, simprocAttr, go_sem, Nat.le_refl, Int.toNat_natCast, Int.toNat_zero, Int.toNat_one, str_eq, cellsV, decide_true, Bool.not_true, Bool.not_false, Tryd.results14]
end Go.Proofs.YtahgjolokkfhjaaDoor

end
section
/-
  How a law's arguments read: numbers, truths, texts, slices and structs of such.
-/
namespace Go.Pw
open Go Go.RowKit
set_option linter.unusedVariables false
set_option linter.unusedSimpArgs false
/-- Cells read as these. -/
def CellsRep (w : World) (cs : List Value) (ps : List PV) : Prop := cs.length = ps.length ∧ ∀ (i : Nat) (c : Value) (p : PV), cs[i]? = some c → ps[i]? = some p → RepF (memCells w) c p
section
variable {H : Type} {en : TypeId × Value → H} {P : Program} {w : World} {base : Nat} {spare : Nat → Bool} {held : Bool}
/-- What lies in memory at a type reads as a datum. -/
def Rd {H : Type} (en : TypeId × Value → H) (P : Program) (w : World) (base : Nat) (spare : Nat → Bool) (held : Bool) (t : TypeId) {α : Type} (e : α → List PV) (ok : α → Prop) : Prop :=
  ∀ (fuel : Nat) (cs : List Value) (x : DataW H × List MemPlace), DataW.trod en P w base spare held fuel t cs = some x → ∃ a, ok a ∧ CellsRep w cs (e a)
theorem CellsRep.one {c : Value} {p : PV} (h : RepF (memCells w) c p) : CellsRep w [c] [p] :=
  ⟨rfl, fun i c' p' h1 h2 => by
    cases i with
    | zero => simp at h1 h2; subst h1 h2; exact h
    | succ i => simp at h1⟩
theorem Rd.int {t : TypeId} {k : IntKind} (ht : P.underlying t = some (.int k)) : Rd en P w base spare held t (fun n : Int => [.val (.int k n)]) (fun n => (Lit.int k n).wf = true) := fun fuel cs x h => by
  obtain ⟨n, rfl, _, hw⟩ := DataW.trod_int ht h
  exact ⟨n, hw, .one (.val rfl)⟩
theorem Rd.string {t : TypeId} (ht : P.underlying t = some .string) : Rd en P w base spare held t (fun s : ByteArray => [vS s]) (fun s => s.size ≤ maxLen) := fun fuel cs x h => by
  obtain ⟨n, rfl, _, hw⟩ := DataW.trod_string ht h
  exact ⟨n, hw, .one (.val rfl)⟩
theorem Rd.map {t : TypeId} {α β : Type} {e : α → List PV} {ok : α → Prop} {e' : β → List PV} {ok' : β → Prop} (h : Rd en P w base spare held t e ok) (g : α → β) (he : ∀ a, e a = e' (g a)) (hk : ∀ a, ok a → ok' (g a)) : Rd en P w base spare held t e' ok' := fun fuel cs x hx => by
  obtain ⟨a, h1, h2⟩ := h fuel cs x hx
  exact ⟨g a, hk a h1, by rw [← he]; exact h2⟩
theorem list_of {α : Type} {p : Nat → α → Prop} : ∀ (n : Nat), (∀ i, i < n → ∃ a, p i a) → ∃ l : List α, l.length = n ∧ ∀ (i : Nat) (a : α), l[i]? = some a → p i a
  | 0, _ => ⟨[], rfl, fun i a h => by simp at h⟩
  | n + 1, h => by
    obtain ⟨l, h1, h2⟩ := list_of n (fun i hi => h i (by omega))
    obtain ⟨a, ha⟩ := h n (by omega)
    refine ⟨l ++ [a], by simp [h1], fun i b hb => ?_⟩
    by_cases hi : i < n
    · rw [List.getElem?_append_left (by omega)] at hb
      exact h2 i b hb
    · have : i = n := by
        have := (List.getElem?_eq_some_iff.1 hb).1
        simp at this
        omega
      subst this
      rw [List.getElem?_append_right (by omega), h1] at hb
      simp at hb
      subst hb
      exact ha
theorem cells?_get {a : Addr} {n : Nat} {cs : List Value} (h : w.cells? base a n = some cs) : cs.length = n ∧ ∀ j, j < n → w.cell? (a.add j) = cs[j]? := by
  unfold World.cells? at h
  split at h
  · have h1 := mapM_some_length h
    refine ⟨by simpa using h1, fun j hj => ?_⟩
    exact mapM_some_get h j j (by simp [hj])
  · cases h
theorem spot_none {a : Addr} {v : Value} (h : w.cell? a = some v) : a.spot = none := by
  unfold World.cell? at h
  split at h
  · split at h
    · cases h
    · rename_i hn
      cases hs : a.spot with
      | none => rfl
      | some x => rw [hs] at hn; simp at hn
  · cases h
theorem Rd.slice {t e : TypeId} {α : Type} {en' : α → List PV} {ok : α → Prop} {sz : Nat} (ht : P.underlying t = some (.slice e)) (hc : P.cellsOf e = sz) (h0 : 0 < sz) (hl : ∀ a, (en' a).length = sz) (h : Rd en P w base spare held e en' ok) :
    Rd en P w base spare held t (fun l : List α => [.sl (l.map en')]) (fun l => l.length ≤ maxLen ∧ ∀ a ∈ l, ok a) := fun fuel cs x hx => by
  rcases DataW.trod_slice ht hx with ⟨rfl, _⟩ | ⟨a, len, cap, elems, rest, n, _, rfl, _, _, hlc, hm, hlen, hel, _, _⟩
  · exact ⟨[], ⟨Nat.zero_le _, fun a ha => by cases ha⟩, .one (.sl (sz := 1) (fun _ _ => .nilIface) rfl (Nat.le_refl _) (by simp) (by simp) (by simp))⟩
  · have each : ∀ i, i < len → ∃ b : α, ok b ∧ ∃ ci, w.cells? base (a.add (i * sz)) sz = some ci ∧ CellsRep w ci (en' b) := fun i hi => by
      have h1 := hel i hi
      rw [hc] at h1
      have h2 : elems[i]? = some elems[i] := List.getElem?_eq_getElem (by omega)
      rw [h2, Option.bind_eq_some_iff] at h1
      obtain ⟨ci, h3, h4⟩ := h1
      obtain ⟨b, hb1, hb2⟩ := h n ci _ h4
      exact ⟨b, hb1, ci, h3, hb2⟩
    obtain ⟨l, l1, l2⟩ := list_of len each
    refine ⟨l, ⟨by omega, fun b hb => ?_⟩, .one ?_⟩
    · obtain ⟨i, hi⟩ := List.mem_iff_getElem?.1 hb
      exact (l2 i b hi).1
    · have spot : 0 < len → a = ⟨a.block, a.off, none⟩ := fun hp => by
        obtain ⟨b, _, ci, h3, h4⟩ := each 0 hp
        obtain ⟨g1, g2⟩ := cells?_get h3
        have h5 := g2 0 h0
        have h6 : ci[0]? = some (ci[0]'(by omega)) := List.getElem?_eq_getElem (by omega)
        rw [h6] at h5
        have e0 : (a.add (0 * sz)).add 0 = a := by simp [Addr.add]
        rw [e0] at h5
        have := spot_none h5
        cases a; simp at this; subst this; rfl
      refine .sl (sz := sz) (fun i j => (w.cell? ⟨a.block, a.off + (i * sz + j), none⟩).getD undef) (by simp [l1]) hlc (fun x hx => ?_) (fun hp => ⟨a.block, a.off, congrArg some (spot hp), fun i j hi hj => ?_⟩) (fun i j x p hx hp => ?_)
      · obtain ⟨b, _, rfl⟩ := List.mem_map.1 hx
        exact hl b
      · obtain ⟨b, _, ci, h3, h4⟩ := each i hi
        obtain ⟨g1, g2⟩ := cells?_get h3
        have h5 := g2 j hj
        have h6 : ci[j]? = some (ci[j]'(by omega)) := List.getElem?_eq_getElem (by omega)
        rw [h6, spot (by omega), Addr.add_lit, Addr.add_lit, Nat.add_assoc] at h5
        show w.cell? _ = _
        rw [h5]; rfl
      · rw [List.getElem?_map] at hx
        cases hli : l[i]? with
        | none => rw [hli] at hx; cases hx
        | some b =>
          rw [hli] at hx
          obtain rfl := Option.some.inj hx
          obtain ⟨_, ci, h3, h4⟩ := l2 i b hli
          have hi : i < len := by rw [← l1]; exact (List.getElem?_eq_some_iff.1 hli).1
          have hj : j < sz := by rw [← hl b]; exact (List.getElem?_eq_some_iff.1 hp).1
          obtain ⟨g1, g2⟩ := cells?_get h3
          have h5 := g2 j hj
          have h6 : ci[j]? = some (ci[j]'(by omega)) := List.getElem?_eq_getElem (by omega)
          rw [h6, spot (by omega), Addr.add_lit, Addr.add_lit, Nat.add_assoc] at h5
          rw [h5]
          exact h4.2 j _ p h6 hp
theorem Rd.bool {t : TypeId} (ht : P.underlying t = some .bool) : Rd en P w base spare held t (fun b : Bool => [vB b]) (fun _ => True) := fun fuel cs x h => by
  obtain ⟨b, rfl, _⟩ := DataW.trod_bool ht h
  exact ⟨b, trivial, .one (.val rfl)⟩
/-- A struct of 3 fields of one cell each. -/
theorem Rd.struct3 {t : TypeId} {fs : Array Field} {f0 f1 f2 : Field} {α0 α1 α2 : Type} {e0 : α0 → PV} {e1 : α1 → PV} {e2 : α2 → PV} {o0 : α0 → Prop} {o1 : α1 → Prop} {o2 : α2 → Prop}
    (ht : P.underlying t = some (.struct fs)) (hfs : fs = #[f0, f1, f2]) (hn : P.cellsOf t = 3)
    (g0 : f0.offset = 0) (g1 : f1.offset = 1) (g2 : f2.offset = 2)
    (c0 : P.cellsOf f0.type = 1) (c1 : P.cellsOf f1.type = 1) (c2 : P.cellsOf f2.type = 1)
    (h0 : Rd en P w base spare held f0.type (fun a => [e0 a]) o0) (h1 : Rd en P w base spare held f1.type (fun a => [e1 a]) o1) (h2 : Rd en P w base spare held f2.type (fun a => [e2 a]) o2) :
    Rd en P w base spare held t (fun a : α0 × α1 × α2 => [e0 a.1, e1 a.2.1, e2 a.2.2]) (fun a => o0 a.1 ∧ o1 a.2.1 ∧ o2 a.2.2) := fun fuel cs x hx => by
  subst hfs
  obtain ⟨xs, n, _, _, hl, hxl, hget⟩ := DataW.trod_struct ht hx
  rw [hn] at hl
  have hxl : xs.length = 3 := hxl
  match cs, hl with
  | [v0, v1, v2], _ =>
  match xs, hxl with
  | [x0, x1, x2], _ =>
  have q0 := hget 0 f0 rfl
  have q1 := hget 1 f1 rfl
  have q2 := hget 2 f2 rfl
  rw [g0, c0] at q0
  rw [g1, c1] at q1
  rw [g2, c2] at q2
  obtain ⟨a0, k0, r0⟩ := h0 n _ x0 q0
  obtain ⟨a1, k1, r1⟩ := h1 n _ x1 q1
  obtain ⟨a2, k2, r2⟩ := h2 n _ x2 q2
  refine ⟨(a0, a1, a2), ⟨k0, k1, k2⟩, rfl, fun i c p hc hp => ?_⟩
  match i with
  | 0 => simp at hc hp; subst hc hp; exact r0.2 0 _ _ rfl rfl
  | 1 => simp at hc hp; subst hc hp; exact r1.2 0 _ _ rfl rfl
  | 2 => simp at hc hp; subst hc hp; exact r2.2 0 _ _ rfl rfl
  | i + 3 => simp at hc
/-- A struct of 4 fields of one cell each. -/
theorem Rd.struct4 {t : TypeId} {fs : Array Field} {f0 f1 f2 f3 : Field} {α0 α1 α2 α3 : Type} {e0 : α0 → PV} {e1 : α1 → PV} {e2 : α2 → PV} {e3 : α3 → PV} {o0 : α0 → Prop} {o1 : α1 → Prop} {o2 : α2 → Prop} {o3 : α3 → Prop}
    (ht : P.underlying t = some (.struct fs)) (hfs : fs = #[f0, f1, f2, f3]) (hn : P.cellsOf t = 4)
    (g0 : f0.offset = 0) (g1 : f1.offset = 1) (g2 : f2.offset = 2) (g3 : f3.offset = 3)
    (c0 : P.cellsOf f0.type = 1) (c1 : P.cellsOf f1.type = 1) (c2 : P.cellsOf f2.type = 1) (c3 : P.cellsOf f3.type = 1)
    (h0 : Rd en P w base spare held f0.type (fun a => [e0 a]) o0) (h1 : Rd en P w base spare held f1.type (fun a => [e1 a]) o1) (h2 : Rd en P w base spare held f2.type (fun a => [e2 a]) o2) (h3 : Rd en P w base spare held f3.type (fun a => [e3 a]) o3) :
    Rd en P w base spare held t (fun a : α0 × α1 × α2 × α3 => [e0 a.1, e1 a.2.1, e2 a.2.2.1, e3 a.2.2.2]) (fun a => o0 a.1 ∧ o1 a.2.1 ∧ o2 a.2.2.1 ∧ o3 a.2.2.2) := fun fuel cs x hx => by
  subst hfs
  obtain ⟨xs, n, _, _, hl, hxl, hget⟩ := DataW.trod_struct ht hx
  rw [hn] at hl
  have hxl : xs.length = 4 := hxl
  match cs, hl with
  | [v0, v1, v2, v3], _ =>
  match xs, hxl with
  | [x0, x1, x2, x3], _ =>
  have q0 := hget 0 f0 rfl
  have q1 := hget 1 f1 rfl
  have q2 := hget 2 f2 rfl
  have q3 := hget 3 f3 rfl
  rw [g0, c0] at q0
  rw [g1, c1] at q1
  rw [g2, c2] at q2
  rw [g3, c3] at q3
  obtain ⟨a0, k0, r0⟩ := h0 n _ x0 q0
  obtain ⟨a1, k1, r1⟩ := h1 n _ x1 q1
  obtain ⟨a2, k2, r2⟩ := h2 n _ x2 q2
  obtain ⟨a3, k3, r3⟩ := h3 n _ x3 q3
  refine ⟨(a0, a1, a2, a3), ⟨k0, k1, k2, k3⟩, rfl, fun i c p hc hp => ?_⟩
  match i with
  | 0 => simp at hc hp; subst hc hp; exact r0.2 0 _ _ rfl rfl
  | 1 => simp at hc hp; subst hc hp; exact r1.2 0 _ _ rfl rfl
  | 2 => simp at hc hp; subst hc hp; exact r2.2 0 _ _ rfl rfl
  | 3 => simp at hc hp; subst hc hp; exact r3.2 0 _ _ rfl rfl
  | i + 4 => simp at hc
/-- A struct of 5 fields of one cell each. -/
theorem Rd.struct5 {t : TypeId} {fs : Array Field} {f0 f1 f2 f3 f4 : Field} {α0 α1 α2 α3 α4 : Type} {e0 : α0 → PV} {e1 : α1 → PV} {e2 : α2 → PV} {e3 : α3 → PV} {e4 : α4 → PV} {o0 : α0 → Prop} {o1 : α1 → Prop} {o2 : α2 → Prop} {o3 : α3 → Prop} {o4 : α4 → Prop}
    (ht : P.underlying t = some (.struct fs)) (hfs : fs = #[f0, f1, f2, f3, f4]) (hn : P.cellsOf t = 5)
    (g0 : f0.offset = 0) (g1 : f1.offset = 1) (g2 : f2.offset = 2) (g3 : f3.offset = 3) (g4 : f4.offset = 4)
    (c0 : P.cellsOf f0.type = 1) (c1 : P.cellsOf f1.type = 1) (c2 : P.cellsOf f2.type = 1) (c3 : P.cellsOf f3.type = 1) (c4 : P.cellsOf f4.type = 1)
    (h0 : Rd en P w base spare held f0.type (fun a => [e0 a]) o0) (h1 : Rd en P w base spare held f1.type (fun a => [e1 a]) o1) (h2 : Rd en P w base spare held f2.type (fun a => [e2 a]) o2) (h3 : Rd en P w base spare held f3.type (fun a => [e3 a]) o3) (h4 : Rd en P w base spare held f4.type (fun a => [e4 a]) o4) :
    Rd en P w base spare held t (fun a : α0 × α1 × α2 × α3 × α4 => [e0 a.1, e1 a.2.1, e2 a.2.2.1, e3 a.2.2.2.1, e4 a.2.2.2.2]) (fun a => o0 a.1 ∧ o1 a.2.1 ∧ o2 a.2.2.1 ∧ o3 a.2.2.2.1 ∧ o4 a.2.2.2.2) := fun fuel cs x hx => by
  subst hfs
  obtain ⟨xs, n, _, _, hl, hxl, hget⟩ := DataW.trod_struct ht hx
  rw [hn] at hl
  have hxl : xs.length = 5 := hxl
  match cs, hl with
  | [v0, v1, v2, v3, v4], _ =>
  match xs, hxl with
  | [x0, x1, x2, x3, x4], _ =>
  have q0 := hget 0 f0 rfl
  have q1 := hget 1 f1 rfl
  have q2 := hget 2 f2 rfl
  have q3 := hget 3 f3 rfl
  have q4 := hget 4 f4 rfl
  rw [g0, c0] at q0
  rw [g1, c1] at q1
  rw [g2, c2] at q2
  rw [g3, c3] at q3
  rw [g4, c4] at q4
  obtain ⟨a0, k0, r0⟩ := h0 n _ x0 q0
  obtain ⟨a1, k1, r1⟩ := h1 n _ x1 q1
  obtain ⟨a2, k2, r2⟩ := h2 n _ x2 q2
  obtain ⟨a3, k3, r3⟩ := h3 n _ x3 q3
  obtain ⟨a4, k4, r4⟩ := h4 n _ x4 q4
  refine ⟨(a0, a1, a2, a3, a4), ⟨k0, k1, k2, k3, k4⟩, rfl, fun i c p hc hp => ?_⟩
  match i with
  | 0 => simp at hc hp; subst hc hp; exact r0.2 0 _ _ rfl rfl
  | 1 => simp at hc hp; subst hc hp; exact r1.2 0 _ _ rfl rfl
  | 2 => simp at hc hp; subst hc hp; exact r2.2 0 _ _ rfl rfl
  | 3 => simp at hc hp; subst hc hp; exact r3.2 0 _ _ rfl rfl
  | 4 => simp at hc hp; subst hc hp; exact r4.2 0 _ _ rfl rfl
  | i + 5 => simp at hc
/-- A value of one cell, as an argument. -/
theorem CellsRep.arg {v : Value} {p : PV} (h1 : v.oneCell' = true) (h : CellsRep w v.cells.toList [p]) : RepA (memCells w) v p := by
  have e : v.cells = #[v] := by cases v <;> first | rfl | simp [Value.oneCell'] at h1
  rw [e] at h
  exact .frz (h.2 0 v p rfl rfl)
theorem CellsRep.aggr {vs : Array Value} {ps : List PV} (h : CellsRep w vs.toList ps) : RepA (memCells w) (.agg vs) (.agg ps) :=
  .agg (by simpa using h.1) (fun i v p hv hp => .frz (h.2 i v p (by simpa using hv) hp)) (fun i v hv => by
    have hi : i < ps.length := by
      have := (Array.getElem?_eq_some_iff.1 hv).1
      have h1 := h.1
      simp at h1
      omega
    exact (h.2 i v _ (by simpa using hv) (List.getElem?_eq_getElem hi)).one)
end
end Go.Pw

end
