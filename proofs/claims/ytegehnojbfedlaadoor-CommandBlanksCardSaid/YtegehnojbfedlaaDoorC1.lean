/-
  Chapter 25: pieces of a line: what the program's scanner tells.
-/
import Derived.Test.YtegehnojbfedlaaDoorC0
open Go Go.Proofs Go.Pw Go.RowKit
namespace Go.Proofs.YtegehnojbfedlaaDoor
set_option maxRecDepth 4000
set_option linter.unusedVariables false
set_option linter.unusedSimpArgs false
/-- The first piece, and what is behind it. -/
def wrd (l : List UInt8) : List UInt8 := nbt (skp l)
def rst (l : List UInt8) : List UInt8 := nbr (skp l)
/-- Where an end of a line begins. -/
def ps (S L : List UInt8) : Nat := S.length - L.length
theorem skp_suf (l : List UInt8) : skp l <:+ l := List.dropWhile_suffix _
theorem nbr_suf (l : List UInt8) : nbr l <:+ l := List.dropWhile_suffix _
theorem rst_suf (l : List UInt8) : rst l <:+ l := (nbr_suf _).trans (skp_suf l)
theorem nb_app (l : List UInt8) : nbt l ++ nbr l = l := List.takeWhile_append_dropWhile
theorem nb_len (l : List UInt8) : (nbt l).length + (nbr l).length = l.length := by rw [← List.length_append, nb_app]
theorem nbt_take (l : List UInt8) : l.take (nbt l).length = nbt l := by
  have := List.take_left (l₁ := nbt l) (l₂ := nbr l)
  rw [nb_app] at this
  exact this
theorem ps_ext {S L : List UInt8} (h : L <:+ S) : (bA S).extract (ps S L) S.length = bA L := by
  rw [ex_bA]
  congr 1
  have e := List.suffix_iff_eq_drop.1 h
  unfold ps
  rw [← e, List.take_of_length_le (by have := h.length_le; omega)]
set_option maxHeartbeats 2000000 in
theorem next_I (S L : List UInt8) (hS : S.length ≤ 1000000) (hL : L <:+ S) :
    OkI Tryd.prog 27 [.ptr 0 0] ⟨[], [(0, .box 56 [vS (bA S), vI (ps S L)])], [], 1, 0⟩
      (fun r st' => r = .tup [vS (bA (wrd L)), vI (ps S (skp L))] ∧ st' = ⟨[], [(0, .box 56 [vS (bA S), vI (ps S (rst L))])], [], 1, 0⟩) := by
  have hE := ps_ext hL
  have l1 := hL.length_le
  have l2 := (skp_suf L).length_le
  have l3 := nb_len (skp L)
  have hp : ps S L ≤ S.length := by unfold ps; omega
  have hfr : (S.length : Int) - ((skp L).length : Int) = (ps S (skp L) : Int) := by unfold ps; omega
  have c0 := trimL_ok L
  have c1 := indexAny_ok (skp L) (by omega)
  refine OkI.of_pwp (by kernel_rfl) Tryd.func27 rfl (by kernel_rfl) (by kernel_rfl) ?_
  simp (implicitDefEqProofs := false) (disch := omega) only [go_sem, reduceCtorEq, Nat.reduceEqDiff, Nat.reduceBEq, ↓reduceIte, Nat.reduceGT, Nat.reduceAdd, Int.reduceEq, Int.reduceLT, Int.reduceLE, Int.reduceNeg, Int.reduceAdd, Int.reduceSub, Int.reduceMul, Int.reduceDiv, Int.reduceMod, Nat.reduceLT, Nat.reduceLeDiff, Nat.reduceMul, Nat.reduceSub, Int.reduceToNat, go_sem, Nat.le_refl, Int.toNat_natCast, Int.toNat_zero, Int.toNat_one, str_eq, sz_bA, tl_bA, Tryd.results27, hE, hfr]
  with_reducible refine CallOk.of c0 rfl ?_
  simp (implicitDefEqProofs := false) (disch := omega) only [go_sem, reduceCtorEq, Nat.reduceEqDiff, Nat.reduceBEq, ↓reduceIte, Nat.reduceGT, Nat.reduceAdd, Int.reduceEq, Int.reduceLT, Int.reduceLE, Int.reduceNeg, Int.reduceAdd, Int.reduceSub, Int.reduceMul, Int.reduceDiv, Int.reduceMod, Nat.reduceLT, Nat.reduceLeDiff, Nat.reduceMul, Nat.reduceSub, Int.reduceToNat, go_sem, Nat.le_refl, Int.toNat_natCast, Int.toNat_zero, Int.toNat_one, str_eq, sz_bA, tl_bA, Tryd.results27, hE, hfr]
  with_reducible refine CallOk.of c1 rfl ?_
  by_cases h0 : nbr (skp L) = []
  · have hx : ixA (skp L) = -1 := if_pos h0
    have hr0 : rst L = [] := h0
    have hw : wrd L = skp L := by
      have := nb_app (skp L)
      rw [h0, List.append_nil] at this
      exact this
    have ht : (ps S (skp L) : Int) + ((skp L).length : Int) = (ps S (rst L) : Int) := by rw [hr0]; simp only [ps, List.length_nil]; omega
    have hE2 : (bA (skp L)).extract 0 (skp L).length = bA (wrd L) := by rw [ex_bA, hw]; simp
    simp (implicitDefEqProofs := false) (disch := omega) only [go_sem, reduceCtorEq, Nat.reduceEqDiff, Nat.reduceBEq, ↓reduceIte, Nat.reduceGT, Nat.reduceAdd, Int.reduceEq, Int.reduceLT, Int.reduceLE, Int.reduceNeg, Int.reduceAdd, Int.reduceSub, Int.reduceMul, Int.reduceDiv, Int.reduceMod, Nat.reduceLT, Nat.reduceLeDiff, Nat.reduceMul, Nat.reduceSub, Int.reduceToNat, go_sem, Nat.le_refl, Int.toNat_natCast, Int.toNat_zero, Int.toNat_one, str_eq, sz_bA, tl_bA, Tryd.results27, hE, hfr, hx, ht, hE2]
    refine ⟨_, rfl, ?_⟩
    refine ⟨?_, ?_, ?_, ?_, ?_, ?_, ?_⟩ <;> simp only [mem_cons_, mem_nil_, lkp, hold_eq, b_some, frz_self, frz1_self, frzL_self, frzO_self, frzO_box, frzO_iter, frzL_cons, frzL_nil, frz_agg, frz1_row, frz1_nil, frz1_val, frz1_sl, frz1_rr, frz1_ptr, frz1_ms, frz_val, frz_sl, frz_row, frz_ptr, frz_ms, frz_fp, frz_tup, frz_fn, PV.lt, PV.ltL, PObj.lt, decide_true, Bool.true_and, Bool.and_true, Bool.and_self, Nat.reduceLT, Nat.reduceLeDiff, Nat.reduceEqDiff, if_true, if_false, ↓reduceIte, and_true, true_and, Nat.zero_le, reduceCtorEq, eq_self, decide_eq_true_eq, ] <;> try first | omega | ((repeat' (first | exact And.intro rfl (by omega) | (refine And.intro ?_ ?_))) <;> first | rfl | omega | (congr 3; omega) | (congr 2; omega))
  · have hx : ixA (skp L) = ((nbt (skp L)).length : Int) := if_neg h0
    have ht : (ps S (skp L) : Int) + ((nbt (skp L)).length : Int) = (ps S (rst L) : Int) := by simp only [ps, rst]; omega
    have hE2 : (bA (skp L)).extract 0 (nbt (skp L)).length = bA (wrd L) := by rw [ex_bA, List.drop_zero, Nat.sub_zero, nbt_take]; rfl
    simp (implicitDefEqProofs := false) (disch := omega) only [go_sem, reduceCtorEq, Nat.reduceEqDiff, Nat.reduceBEq, ↓reduceIte, Nat.reduceGT, Nat.reduceAdd, Int.reduceEq, Int.reduceLT, Int.reduceLE, Int.reduceNeg, Int.reduceAdd, Int.reduceSub, Int.reduceMul, Int.reduceDiv, Int.reduceMod, Nat.reduceLT, Nat.reduceLeDiff, Nat.reduceMul, Nat.reduceSub, Int.reduceToNat, go_sem, Nat.le_refl, Int.toNat_natCast, Int.toNat_zero, Int.toNat_one, str_eq, sz_bA, tl_bA, Tryd.results27, hE, hfr, hx, ht, hE2]
    refine ⟨_, rfl, ?_⟩
    refine ⟨?_, ?_, ?_, ?_, ?_, ?_, ?_⟩ <;> simp only [mem_cons_, mem_nil_, lkp, hold_eq, b_some, frz_self, frz1_self, frzL_self, frzO_self, frzO_box, frzO_iter, frzL_cons, frzL_nil, frz_agg, frz1_row, frz1_nil, frz1_val, frz1_sl, frz1_rr, frz1_ptr, frz1_ms, frz_val, frz_sl, frz_row, frz_ptr, frz_ms, frz_fp, frz_tup, frz_fn, PV.lt, PV.ltL, PObj.lt, decide_true, Bool.true_and, Bool.and_true, Bool.and_self, Nat.reduceLT, Nat.reduceLeDiff, Nat.reduceEqDiff, if_true, if_false, ↓reduceIte, and_true, true_and, Nat.zero_le, reduceCtorEq, eq_self, decide_eq_true_eq, ] <;> try first | omega | ((repeat' (first | exact And.intro rfl (by omega) | (refine And.intro ?_ ?_))) <;> first | rfl | omega | (congr 3; omega) | (congr 2; omega))
end Go.Proofs.YtegehnojbfedlaaDoor
