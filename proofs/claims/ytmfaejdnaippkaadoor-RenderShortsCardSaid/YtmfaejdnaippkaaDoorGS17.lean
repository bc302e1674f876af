/-
  Contracts and plain laws on the way to the statement; each says its own conditions.
-/
import Derived.Test.YtmfaejdnaippkaaDoorGS14
import Derived.Test.YtmfaejdnaippkaaDoorGS15
import Derived.Test.YtmfaejdnaippkaaDoorGS16
import Derived.Test.YtmfaejdnaippkaaDoorGS8
import Derived.Test.YtmfaejdnaippkaaDoorGS13
section
/-
  The law of makers.
-/
open Go Go.Proofs Go.Pw Go.RowKit
namespace Go.Proofs.YtmfaejdnaippkaaDoor
set_option maxRecDepth 4000
set_option linter.unusedVariables false
set_option linter.unusedSimpArgs false
theorem list_ok (l : List V) (hl : l.length ≤ 1000000) : Ok Tryd.prog 16 [.sl (encV l)] (.agg (cellsV (.mk 4 false 0 ByteArray.empty l []))) := by
  have c := cloneV_ok l hl
  refine Ok.of_pwp (by kernel_rfl) Tryd.func16 rfl (by kernel_rfl) (by kernel_rfl) ?_
  simp (implicitDefEqProofs := false) (disch := omega) only [go_sem, simprocAttr, go_sem, Nat.le_refl, cellsV, encV_nil, encT_nil, Tryd.results16]
  with_reducible refine CallOk.of c rfl ?_
  simp (implicitDefEqProofs := false) (disch := omega) only [go_sem, simprocAttr, go_sem, Nat.le_refl, cellsV, encV_nil, encT_nil, Tryd.results16]
end Go.Proofs.YtmfaejdnaippkaaDoor

end
section
/-
  Chapter 7: the fixed example; the law Quotes.
-/
open Go Go.Proofs Go.Pw Go.RowKit
namespace Go.Proofs.YtmfaejdnaippkaaDoor
set_option maxRecDepth 4000
set_option linter.unusedVariables false
set_option linter.unusedSimpArgs false
abbrev nV_ (n : Int) : V := .mk 2 false n ByteArray.empty [] []
abbrev lst_ : V := .mk 4 false 0 ByteArray.empty [nV_ 1] []
abbrev obj_ : V := .mk 5 false 0 ByteArray.empty [lst_, vZero] [⟨#[97]⟩, ⟨#[98]⟩]
theorem sOf_1 : sOf 1 = ⟨#[49]⟩ := by
  rw [sOf_pos (by decide), decD_pad, show (1 : Int).natAbs = 1 from rfl, Lib.nDigits_small (by decide)]
  rfl
theorem ex_text : tV obj_ = ⟨#[123, 34, 97, 34, 58, 91, 49, 93, 44, 34, 98, 34, 58, 110, 117, 108, 108, 125]⟩ := by
  have h1 : txV gT (bC 58) 2 (nV_ 1) = ⟨#[49]⟩ := by
    rw [txV_eq]
    show sOf 1 = _
    exact sOf_1
  have h2 : txV gT (bC 58) 1 lst_ = ⟨#[91, 49, 93]⟩ := by
    rw [txV_eq]
    show nodeT ByteArray.empty ByteArray.empty (bC 58) 4 false 0 ByteArray.empty [] [txV gT (bC 58) 2 (nV_ 1)] = _
    rw [h1]
    decide +kernel
  have h3 : txV gT (bC 58) 1 vZero = ⟨#[110, 117, 108, 108]⟩ := by
    rw [txV_eq]
    rfl
  rw [tV, txV_eq]
  show nodeT ByteArray.empty ByteArray.empty (bC 58) 5 false 0 ByteArray.empty [⟨#[97]⟩, ⟨#[98]⟩] [txV gT (bC 58) 1 lst_, txV gT (bC 58) 1 vZero] = _
  rw [h2, h3]
  decide +kernel
theorem ex_obj : objF [⟨#[97]⟩, ⟨#[98]⟩] [lst_, vZero] = .tup [.agg (cellsV obj_), vI 0] := by
  unfold objF
  rw [if_neg (by decide), if_neg (by decide +kernel)]
  have : putAll [] [] [⟨#[97]⟩, ⟨#[98]⟩] [lst_, vZero] = some ([⟨#[97]⟩, ⟨#[98]⟩], [lst_, vZero]) := by
    have p1 : posT [] ⟨#[97]⟩ = 0 := by decide +kernel
    have p2 : posT [⟨#[97]⟩] ⟨#[98]⟩ = 1 := by decide +kernel
    rw [putAll, if_neg (by decide +kernel), p1]
    show putAll [⟨#[97]⟩] [lst_] [⟨#[98]⟩] [vZero] = _
    rw [putAll, if_neg (by decide +kernel), p2, putAll.eq_2 _ _ _ _ (fun _ _ _ _ h => by cases h)]
    rfl
  rw [this, objR]
set_option maxHeartbeats 4000000 in
theorem awake7_ok : Ok Tryd.prog 5 [] (vB true) := by
  have c1 := num_ok 1
  have c3 := list_ok [nV_ 1] (by decide)
  have c4 := object_ok [⟨#[97]⟩, ⟨#[98]⟩] [lst_, vZero] (by intro s h; simp at h; rcases h with rfl | rfl <;> decide) (by decide) (by decide)
  rw [ex_obj] at c4
  have c5 := rtxt_ok obj_ (by decide +kernel) (by decide +kernel)
  rw [ex_text] at c5
  simp only [vZero, encT, encV_cons, encV_nil, encT_nil, List.map_cons, List.map_nil, V.kind_mk, V.b_mk, V.n_mk, V.s_mk, V.items_mk, V.keys_mk, cellsV] at c1 c3 c4 c5
  refine Ok.of_pwp (by kernel_rfl) Tryd.func5 rfl (by kernel_rfl) (by kernel_rfl) ?_
  simp (implicitDefEqProofs := false) (disch := omega) only [go_sem, simprocAttr, go_sem, Nat.le_refl, Int.toNat_natCast, Int.toNat_zero, Int.toNat_one, str_eq, cellsV, decide_true, Bool.not_true, Bool.not_false, beq_self_eq_true, encV_nil, encT_nil, List.getD_cons_zero, Tryd.results5]
  with_reducible refine CallOk.of c1 rfl ?_
  simp (implicitDefEqProofs := false) (disch := omega) only [go_sem, simprocAttr, go_sem, Nat.le_refl, Int.toNat_natCast, Int.toNat_zero, Int.toNat_one, str_eq, cellsV, decide_true, Bool.not_true, Bool.not_false, beq_self_eq_true, encV_nil, encT_nil, List.getD_cons_zero, Tryd.results5]
  with_reducible refine CallOk.of c3 rfl ?_
  simp (implicitDefEqProofs := false) (disch := omega) only [go_sem, simprocAttr, go_sem, Nat.le_refl, Int.toNat_natCast, Int.toNat_zero, Int.toNat_one, str_eq, cellsV, decide_true, Bool.not_true, Bool.not_false, beq_self_eq_true, encV_nil, encT_nil, List.getD_cons_zero, Tryd.results5]
  with_reducible refine CallOk.of c4 rfl ?_
  simp (implicitDefEqProofs := false) (disch := omega) only [go_sem, simprocAttr, go_sem, Nat.le_refl, Int.toNat_natCast, Int.toNat_zero, Int.toNat_one, str_eq, cellsV, decide_true, Bool.not_true, Bool.not_false, beq_self_eq_true, encV_nil, encT_nil, List.getD_cons_zero, Tryd.results5]
  with_reducible refine CallOk.of c5 rfl ?_
  simp (implicitDefEqProofs := false) (disch := omega) only [go_sem, simprocAttr, go_sem, Nat.le_refl, Int.toNat_natCast, Int.toNat_zero, Int.toNat_one, str_eq, cellsV, decide_true, Bool.not_true, Bool.not_false, beq_self_eq_true, encV_nil, encT_nil, List.getD_cons_zero, Tryd.results5]
end Go.Proofs.YtmfaejdnaippkaaDoor

end
section
/-
  A value's text, cut short: the program's and the document's; the law.
-/
open Go Go.Proofs Go.Pw Go.RowKit
namespace Go.Proofs.YtmfaejdnaippkaaDoor
set_option maxRecDepth 4000
set_option linter.unusedVariables false
set_option linter.unusedSimpArgs false
theorem rvtext_ok (v : V) (hg : goodB v = true) (hw : wrV v = true) (hz : szV v ≤ 10000) (hn : nV v ≤ 1000000) : Ok Tryd.prog 27 [.agg (cellsV v)] (vS (tV v)) := by
  have c := rwrite_ok false 0 (by decide) v 0 hg hw (fun h => by cases h) (by omega) hz
  rw [gL_f] at c
  refine Ok.of_pwp (by kernel_rfl) Tryd.func27 rfl (by kernel_rfl) (by kernel_rfl) ?_
  generalize hR : vS (tV v) = R
  simp (implicitDefEqProofs := false) (disch := omega) only [go_sem, simprocAttr, go_sem, Nat.le_refl, cellsV, str_eq, Tryd.results27]
  with_reducible refine CallOk.of c rfl ?_
  simp (implicitDefEqProofs := false) (disch := omega) only [go_sem, simprocAttr, go_sem, Nat.le_refl, cellsV, str_eq, Tryd.results27]
  exact hR
theorem ext_left (a b : ByteArray) : (a ++ b).extract 0 a.size = a := ByteArray.extract_append_eq_left rfl
theorem ext_right (a b : ByteArray) : (a ++ b).extract a.size (a ++ b).size = b := ByteArray.extract_append_eq_right rfl ByteArray.size_append
set_option maxHeartbeats 8000000 in
theorem short_ok (v : V) (m : Int) (hm : -9223372036854775808 ≤ m ∧ m ≤ 9223372036854775807) (hg : goodB v = true) (hw : wrV v = true) (hl : 60 * szV v + 800 * nV v ≤ 800000) : Ok Tryd.prog 12 [.agg (cellsV v), vI m] (vS (shortF (tV v) m)) := by
  have c := rtxt_ok v hw hl
  have hT := tV_T hg
  have hz := txV_size (G := gT) (c := bC 58) (D := 1000000) (fun d _ => Nat.zero_le _) (by decide) v 0 hw (by omega)
  have hs : (tV v).size ≤ 800000 := by unfold tV; omega
  refine Ok.of_pwp (by kernel_rfl) Tryd.func12 rfl (by kernel_rfl) (by kernel_rfl) ?_
  generalize hR : vS (shortF (tV v) m) = R
  simp (implicitDefEqProofs := false) (disch := omega) only [go_sem, simprocAttr, go_sem, Nat.le_refl, cellsV, str_eq, Tryd.results12]
  with_reducible refine CallOk.of c rfl ?_
  generalize tV v = s at *
  unfold shortF at hR
  by_cases h1 : (s.size : Int) ≤ m
  · rw [if_pos h1] at hR
    simp (implicitDefEqProofs := false) (disch := omega) only [go_sem, simprocAttr, go_sem, Nat.le_refl, cellsV, str_eq, Tryd.results12]
    exact hR
  rw [if_neg h1] at hR
  by_cases h2 : m < 3
  · rw [if_pos h2] at hR
    simp (implicitDefEqProofs := false) (disch := omega) only [go_sem, simprocAttr, go_sem, Nat.le_refl, cellsV, str_eq, Tryd.results12]
    exact hR
  rw [if_neg h2] at hR
  obtain ⟨a1, a2⟩ := tP_all hT
  generalize (scan s 0).1 = l at *
  simp (implicitDefEqProofs := false) (disch := omega) only [go_sem, simprocAttr, go_sem, Nat.le_refl, cellsV, str_eq, Tryd.results12]
  refine p_loop (ι := { k : Nat // k ≤ l.length ∧ cutK l (m - 3) (l.length - k) k = cutK l (m - 3) l.length 0 }) (fun p => ⟨[(6, vI (tP l p.1).size), (5, vS s), (1, vI m)], [], [], 1, 0⟩) (fun p => l.length - p.1) ⟨0, Nat.zero_le _, rfl⟩ ?_ ?_
  · rw [show (tP l (0 : Nat)).size = 0 by rw [tP_0]; rfl]
    refine ⟨?_, ?_, ?_, ?_, ?_, ?_, ?_⟩ <;> simp only [go_sem, simprocAttr, decide_eq_true_eq, Int.natCast_zero] <;> try first | omega | ((repeat' (first | exact And.intro rfl (by omega) | (refine And.intro ?_ ?_))) <;> first | rfl | omega | (congr 3; omega) | (congr 2; omega))
  · rintro ⟨k, hk, hc⟩
    simp only
    have hd := tP_drop l k
    rw [a1] at hd
    have hds : s.size = (tP l k).size + (strOfNums (textN (l.drop k))).size := by rw [hd, ByteArray.size_append]
    have e1 : s.extract 0 (tP l k).size = tP l k := by rw [hd, ext_left]
    have e2 : s.extract (tP l k).size s.size = strOfNums (textN (l.drop k)) := by
      have := ext_right (tP l k) (strOfNums (textN (l.drop k)))
      rw [← hd] at this
      exact this
    by_cases hkn : k < l.length
    · have hdp := drop_pt hkn
      have hst := tP_step hkn
      have hf := List.all_eq_true.1 a2 _ (getD_mem (d := 0) hkn)
      have hbl := bytesF_len (l.getD k 0)
      have hde := dec_enc (l.getD k 0) hf (strOfNums (textN (l.drop (k + 1))))
      rw [← hdp] at hde
      have hsz : (strOfNums (textN (l.drop k))).size = (bytesF (l.getD k 0)).length + (strOfNums (textN (l.drop (k + 1)))).size := by rw [hdp, ByteArray.size_append, strOf_len]
      have hdec := decF_good (strOfNums (textN (l.drop k))) (by omega)
      rw [hde] at hdec
      have cd := decode_ok0 (strOfNums (textN (l.drop k))) (by omega)
      rw [hdec] at cd
      have hst2 : (tP l (k + 1)).size = (tP l k).size + (bytesF (l.getD k 0)).length := by rw [hst, ByteArray.size_append, strOf_len]
      have hcs : cutK l (m - 3) (l.length - k) k = if m - 3 < ((tP l (k + 1)).size : Int) then k else cutK l (m - 3) (l.length - (k + 1)) (k + 1) := by
        rw [show l.length - k = (l.length - (k + 1)) + 1 by omega, cutK]
      simp (implicitDefEqProofs := false) (disch := omega) only [go_sem, simprocAttr, go_sem, Nat.le_refl, cellsV, str_eq, Tryd.results12, e2]
      with_reducible refine CallOk.of cd rfl ?_
      by_cases hlim : m - 3 < ((tP l (k + 1)).size : Int)
      · rw [if_pos hlim] at hcs
        rw [hcs] at hc
        have hdl : decide (m - 3 < ((tP l k).size : Int) + ((bytesF (l.getD k 0)).length : Int)) = true := decide_eq_true (by omega)
        simp (implicitDefEqProofs := false) (disch := omega) only [go_sem, simprocAttr, go_sem, Nat.le_refl, cellsV, str_eq, Tryd.results12, e1, hdl]
        rw [← hR, ← hc]
        exact ⟨by show _ + 3 ≤ _; omega, rfl⟩
      · rw [if_neg hlim] at hcs
        have hdl : decide (m - 3 < ((tP l k).size : Int) + ((bytesF (l.getD k 0)).length : Int)) = false := decide_eq_false (by omega)
        simp (implicitDefEqProofs := false) (disch := omega) only [go_sem, simprocAttr, go_sem, Nat.le_refl, cellsV, str_eq, Tryd.results12, e1, hdl]
        refine ⟨⟨k + 1, by omega, by rw [← hcs]; exact hc⟩, by simp only; omega, ?_⟩
        refine ⟨?_, ?_, ?_, ?_, ?_, ?_, ?_⟩ <;> simp only [go_sem, simprocAttr, decide_eq_true_eq, hst2, Int.natCast_add] <;> try first | omega | ((repeat' (first | exact And.intro rfl (by omega) | (refine And.intro ?_ ?_))) <;> first | rfl | omega | (congr 3; omega) | (congr 2; omega))
    · have cd := decode_ok0 (strOfNums (textN (l.drop k))) (by omega)
      have h0 : (strOfNums (textN (l.drop k))).size = 0 := by rw [List.drop_eq_nil_of_le (by omega)]; rfl
      rw [decF_nil _ h0] at cd
      rw [show l.length - k = 0 by omega, cutK] at hc
      simp (implicitDefEqProofs := false) (disch := omega) only [go_sem, simprocAttr, go_sem, Nat.le_refl, cellsV, str_eq, Tryd.results12, e2]
      with_reducible refine CallOk.of cd rfl ?_
      simp (implicitDefEqProofs := false) (disch := omega) only [go_sem, simprocAttr, go_sem, Nat.le_refl, cellsV, str_eq, Tryd.results12, e1]
      rw [← hR, ← hc]
      exact ⟨by show _ + 3 ≤ _; omega, rfl⟩
set_option maxHeartbeats 8000000 in
theorem rshort_ok (v : V) (m : Int) (hm : -9223372036854775808 ≤ m ∧ m ≤ 9223372036854775807) (hg : goodB v = true) (hw : wrV v = true) (hl : 60 * szV v + 800 * nV v ≤ 800000) (hz0 : szV v ≤ 10000) : Ok Tryd.prog 14 [.agg (cellsV v), vI m] (vS (shortF (tV v) m)) := by
  have hnle := nV_le v
  have c := rvtext_ok v hg hw hz0 (by omega)
  have hT := tV_T hg
  have hz := txV_size (G := gT) (c := bC 58) (D := 1000000) (fun d _ => Nat.zero_le _) (by decide) v 0 hw (by omega)
  have hs : (tV v).size ≤ 800000 := by unfold tV; omega
  refine Ok.of_pwp (by kernel_rfl) Tryd.func14 rfl (by kernel_rfl) (by kernel_rfl) ?_
  generalize hR : vS (shortF (tV v) m) = R
  simp (implicitDefEqProofs := false) (disch := omega) only [go_sem, simprocAttr, go_sem, Nat.le_refl, cellsV, str_eq, Tryd.results14, encI_len]
  with_reducible refine CallOk.of c rfl ?_
  generalize tV v = s at *
  unfold shortF at hR
  by_cases h1 : (s.size : Int) ≤ m
  · rw [if_pos h1] at hR
    simp (implicitDefEqProofs := false) (disch := omega) only [go_sem, simprocAttr, go_sem, Nat.le_refl, cellsV, str_eq, Tryd.results14, encI_len]
    exact hR
  rw [if_neg h1] at hR
  by_cases h2 : m < 3
  · rw [if_pos h2] at hR
    simp (implicitDefEqProofs := false) (disch := omega) only [go_sem, simprocAttr, go_sem, Nat.le_refl, cellsV, str_eq, Tryd.results14, encI_len]
    exact hR
  rw [if_neg h2] at hR
  obtain ⟨a1, a2⟩ := tP_all hT
  have cp := rpoints_ok s (by omega)
  have hll := (scan_len s 0 (Nat.zero_le _)).2.2
  generalize (scan s 0).1 = l at *
  simp (implicitDefEqProofs := false) (disch := omega) only [go_sem, simprocAttr, go_sem, Nat.le_refl, cellsV, str_eq, Tryd.results14, encI_len]
  with_reducible refine CallOk.of cp rfl ?_
  simp (implicitDefEqProofs := false) (disch := omega) only [go_sem, simprocAttr, go_sem, Nat.le_refl, cellsV, str_eq, Tryd.results14, encI_len]
  refine p_loop (ι := { k : Nat // k ≤ l.length ∧ cutK l (m - 3) (l.length - k) k = cutK l (m - 3) l.length 0 }) (fun p => ⟨[(8, vS (tP l p.1)), (6, .sl (encI l)), (26, vI l.length), (27, vI p.1), (1, vI m)], [], [], 0, 0⟩) (fun p => l.length - p.1) ⟨0, Nat.zero_le _, rfl⟩ ?_ ?_
  · rw [show tP l (0 : Nat) = ⟨#[]⟩ from tP_0 l]
    refine ⟨?_, ?_, ?_, ?_, ?_, ?_, ?_⟩ <;> simp only [go_sem, simprocAttr, decide_eq_true_eq, Int.natCast_zero, encI_len] <;> try first | omega | ((repeat' (first | exact And.intro rfl (by omega) | (refine And.intro ?_ ?_))) <;> first | rfl | omega | (congr 3; omega) | (congr 2; omega))
  · rintro ⟨k, hk, hc⟩
    simp only
    have hd := tP_drop l k
    rw [a1] at hd
    have hds : s.size = (tP l k).size + (strOfNums (textN (l.drop k))).size := by rw [hd, ByteArray.size_append]
    by_cases hkn : k < l.length
    · have hdp := drop_pt hkn
      have hst := tP_step hkn
      have hf := List.all_eq_true.1 a2 _ (getD_mem (d := 0) hkn)
      have hbl := bytesF_len (l.getD k 0)
      have hsz : (strOfNums (textN (l.drop k))).size = (bytesF (l.getD k 0)).length + (strOfNums (textN (l.drop (k + 1)))).size := by rw [hdp, ByteArray.size_append, strOf_len]
      have hst2 : (tP l (k + 1)).size = (tP l k).size + (bytesF (l.getD k 0)).length := by rw [hst, ByteArray.size_append, strOf_len]
      have hpt : isPt (l.getD k 0) := by unfold isF at hf; simp only [decide_eq_true_eq] at hf; exact ⟨by omega, by omega⟩
      have hsl : (l.drop k).take 1 = [l.getD k 0] := by
        rw [List.drop_eq_getElem_cons hkn, List.getD_eq_getElem?_getD, List.getElem?_eq_getElem hkn]
        rfl
      have ct := ptext_ok [l.getD k 0] (by simp; exact hpt) (by simp)
      have e1 : textN [l.getD k 0] = bytesF (l.getD k 0) := by simp [textN]
      rw [e1] at ct
      have hcs : cutK l (m - 3) (l.length - k) k = if m - 3 < ((tP l (k + 1)).size : Int) then k else cutK l (m - 3) (l.length - (k + 1)) (k + 1) := by
        rw [show l.length - k = (l.length - (k + 1)) + 1 by omega, cutK]
      have hall : (∀ x : List PV, x ∈ encI l → x.length = 1) = True := eq_true fun x hx => by
        obtain ⟨y, _, rfl⟩ := List.mem_map.1 hx
        rfl
      have hsl2 : List.drop k (List.take ((k : Int) + 1).toNat (encI l)) = encI [l.getD k 0] := by
        rw [show ((k : Int) + 1).toNat = k + 1 by omega, List.drop_take, show k + 1 - k = 1 by omega, ← hsl]
        simp [encI, List.map_drop, List.map_take]
      simp (implicitDefEqProofs := false) (disch := omega) only [go_sem, simprocAttr, go_sem, Nat.le_refl, cellsV, str_eq, Tryd.results14, encI_len, hall, hsl2]
      with_reducible refine CallOk.of ct rfl ?_
      by_cases hlim : m - 3 < ((tP l (k + 1)).size : Int)
      · rw [if_pos hlim] at hcs
        rw [hcs] at hc
        have hdl : decide (m - 3 < ((tP l (k + 1)).size : Int)) = true := decide_eq_true (by omega)
        simp (implicitDefEqProofs := false) (disch := omega) only [go_sem, simprocAttr, go_sem, Nat.le_refl, cellsV, str_eq, Tryd.results14, encI_len, ← hst, hdl, strOf_len]
        rw [← hR, ← hc]
        exact ⟨by show _ + 3 ≤ _; omega, rfl⟩
      · rw [if_neg hlim] at hcs
        have hdl : decide (m - 3 < ((tP l (k + 1)).size : Int)) = false := decide_eq_false (by omega)
        simp (implicitDefEqProofs := false) (disch := omega) only [go_sem, simprocAttr, go_sem, Nat.le_refl, cellsV, str_eq, Tryd.results14, encI_len, ← hst, hdl, strOf_len]
        refine ⟨⟨k + 1, by omega, by rw [← hcs]; exact hc⟩, by simp only; omega, ?_⟩
        refine ⟨?_, ?_, ?_, ?_, ?_, ?_, ?_⟩ <;> simp only [go_sem, simprocAttr, decide_eq_true_eq, Int.natCast_add, Int.natCast_one] <;> try first | omega | ((repeat' (first | exact And.intro rfl (by omega) | (refine And.intro ?_ ?_))) <;> first | rfl | omega | (congr 3; omega) | (congr 2; omega))
    · rw [show l.length - k = 0 by omega, cutK] at hc
      simp (implicitDefEqProofs := false) (disch := omega) only [go_sem, simprocAttr, go_sem, Nat.le_refl, cellsV, str_eq, Tryd.results14, encI_len]
      rw [← hR, ← hc]
      exact ⟨by show _ + 3 ≤ _; omega, rfl⟩
theorem short_size {s : ByteArray} (h : isT s = true) (m : Int) : (shortF s m).size ≤ s.size + 3 := by
  unfold shortF
  split
  · omega
  · split
    · show 0 ≤ _; omega
    · have h1 := tP_drop (scan s 0).1 (cutK (scan s 0).1 (m - 3) (scan s 0).1.length 0)
      rw [(tP_all h).1] at h1
      have h2 := congrArg ByteArray.size h1
      rw [ByteArray.size_append] at h2
      rw [ByteArray.size_append]
      show _ + 3 ≤ _
      omega
set_option maxHeartbeats 8000000 in
theorem shorts_ok (l : List Nd) (m : Int) (hN : NdsOk l) (hl : l.length ≤ 9223372036854775807) (hm : -9223372036854775808 ≤ m ∧ m ≤ 9223372036854775807) : Ok Tryd.prog 4 [.sl (encN l), vI m] (vB true) := by
  have c0 := awake7_ok
  refine Ok.of_pwp (by kernel_rfl) Tryd.func4 rfl (by kernel_rfl) (by kernel_rfl) ?_
  simp (implicitDefEqProofs := false) (disch := omega) only [go_sem, simprocAttr, go_sem, Nat.le_refl, cellsV, str_eq, Tryd.results4]
  with_reducible refine CallOk.of c0 rfl ?_
  simp (implicitDefEqProofs := false) (disch := omega) only [go_sem, simprocAttr, go_sem, Nat.le_refl, cellsV, str_eq, Tryd.results4]
  refine CallOk.ofI (OkI.ofQ (st := ⟨[], _, _, _, _⟩) (tree_ok l hN hl) ?_) rfl rfl rfl rfl ?_
  · rfl
  rintro r st1 ⟨⟨v, hv, rfl⟩, rfl⟩
  have hw := hv.wr
  have hg := hv.good
  have hz := hv.sz
  have hn := hv.size
  have c1 := real_ok v (by omega)
  have c2 := short_ok v m hm hg hw (by omega)
  have c3 := rshort_ok v m hm hg hw (by omega) (by omega)
  have hT := tV_T hg
  obtain ⟨t1, t2⟩ := short_T hT m
  have hs : (tV v).size ≤ 800000 := by
    have := txV_size (G := gT) (c := bC 58) (D := 1000000) (fun d _ => Nat.zero_le _) (by decide) v 0 hw (by omega)
    unfold tV; omega
  have hss : (shortF (tV v) m).size ≤ 1000000 := by have := short_size hT m; omega
  generalize shortF (tV v) m = s at *
  have c4 := rvalid_ok s hss
  rw [(isT_iff s).1 t1, decide_eq_true rfl] at c4
  simp (implicitDefEqProofs := false) (disch := omega) only [go_sem, simprocAttr, go_sem, Nat.le_refl, cellsV, str_eq, Tryd.results4]
  with_reducible refine CallOk.of c1 rfl ?_
  simp (implicitDefEqProofs := false) (disch := omega) only [go_sem, simprocAttr, go_sem, Nat.le_refl, cellsV, str_eq, Tryd.results4]
  with_reducible refine CallOk.of c2 rfl ?_
  simp (implicitDefEqProofs := false) (disch := omega) only [go_sem, simprocAttr, go_sem, Nat.le_refl, cellsV, str_eq, Tryd.results4]
  with_reducible refine CallOk.of c3 rfl ?_
  rcases t2 with h | h
  · have hd : decide ((s.size : Int) ≤ m) = true := decide_eq_true h
    simp (implicitDefEqProofs := false) (disch := omega) only [go_sem, simprocAttr, go_sem, Nat.le_refl, cellsV, str_eq, Tryd.results4, hd]
    with_reducible refine CallOk.of c4 rfl ?_
    simp (implicitDefEqProofs := false) (disch := omega) only [go_sem, simprocAttr, go_sem, Nat.le_refl, cellsV, str_eq, Tryd.results4]
  · have he : s = ⟨#[]⟩ := h
    by_cases h2 : (s.size : Int) ≤ m
    · have hd : decide ((s.size : Int) ≤ m) = true := decide_eq_true h2
      simp (implicitDefEqProofs := false) (disch := omega) only [go_sem, simprocAttr, go_sem, Nat.le_refl, cellsV, str_eq, Tryd.results4, hd]
      with_reducible refine CallOk.of c4 rfl ?_
      simp (implicitDefEqProofs := false) (disch := omega) only [go_sem, simprocAttr, go_sem, Nat.le_refl, cellsV, str_eq, Tryd.results4]
    · have hd : decide ((s.size : Int) ≤ m) = false := decide_eq_false h2
      have hel : s.data.toList = [] := by rw [he]
      simp (implicitDefEqProofs := false) (disch := omega) only [go_sem, simprocAttr, go_sem, Nat.le_refl, cellsV, str_eq, Tryd.results4, hd, decide_eq_true hel]
      with_reducible refine CallOk.of c4 rfl ?_
      simp (implicitDefEqProofs := false) (disch := omega) only [go_sem, simprocAttr, go_sem, Nat.le_refl, cellsV, str_eq, Tryd.results4]
end Go.Proofs.YtmfaejdnaippkaaDoor

end
section
/-
  How nodes and lists of texts read, ags a law's arguments.
-/
open Go Go.Proofs Go.Pw Go.RowKit
namespace Go.Proofs.YtmfaejdnaippkaaDoor
set_option maxRecDepth 4000
set_option linter.unusedVariables false
set_option linter.unusedSimpArgs false
theorem wf_u8_ {n : Int} (h : (Lit.int .u8 n).wf = true) : 0 ≤ n ∧ n ≤ 255 := by
  simp only [Lit.wf, Bool.and_eq_true, decide_eq_true_eq] at h
  exact h
theorem wf_i64_ {n : Int} (h : (Lit.int .i64 n).wf = true) : -9223372036854775808 ≤ n ∧ n ≤ 9223372036854775807 := by
  simp only [Lit.wf, Bool.and_eq_true, decide_eq_true_eq] at h
  exact h
section
variable {H : Type} {en : TypeId × Value → H} {w : World} {base : Nat} {spare : Nat → Bool} {held : Bool}
theorem rdTexts : Rd en Tryd.prog w base spare held 27 (fun l : List ByteArray => [.sl (encT l)]) (fun l => l.length ≤ maxLen ∧ ∀ s ∈ l, s.size ≤ maxLen) :=
  Rd.slice (sz := 1) Tryd.underlying27 (by kernel_rfl) (by decide) (fun _ => rfl) (Rd.string Tryd.underlying9)
theorem rdBytes : Rd en Tryd.prog w base spare held 50 (fun l : List Int => [.sl (encC l)]) (fun l => l.length ≤ maxLen ∧ ∀ n ∈ l, (Lit.int .u8 n).wf = true) :=
  Rd.slice (sz := 1) Tryd.underlying50 (by kernel_rfl) (by decide) (fun _ => rfl) (Rd.int Tryd.underlying5)
theorem rdNode : Rd en Tryd.prog w base spare held 62 cellsN NdOk := by
  refine Rd.map (Rd.struct5 Tryd.underlying62 rfl (by kernel_rfl) rfl rfl rfl rfl rfl (by kernel_rfl) (by kernel_rfl) (by kernel_rfl) (by kernel_rfl) (by kernel_rfl)
    (Rd.int Tryd.underlying5) (Rd.int Tryd.underlying2) (Rd.string Tryd.underlying9) rdBytes rdTexts)
    (fun a => ⟨a.1, a.2.1, a.2.2.1, a.2.2.2.1, a.2.2.2.2⟩) (fun a => rfl) (fun a h => ⟨wf_u8_ h.1, wf_i64_ h.2.1, fun d hd => wf_u8_ (h.2.2.2.1.2 d hd), h.2.2.2.1.1, h.2.2.2.2.1⟩)
theorem rdNodes : Rd en Tryd.prog w base spare held 32 (fun l : List Nd => [.sl (encN l)]) (fun l => l.length ≤ maxLen ∧ NdsOk l) :=
  Rd.slice (sz := 5) Tryd.underlying32 (by kernel_rfl) (by decide) (fun _ => rfl) rdNode
end
end Go.Proofs.YtmfaejdnaippkaaDoor

end
