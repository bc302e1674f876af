/-
  Chapter 12: mixed numbers.
-/
import Derived.Test.YtmenmfibpbpblaaE1
open Go Go.Proofs Go.Pw Go.RowKit
namespace Go.Proofs.Ytmenmfibpbpblaa
set_option maxRecDepth 4000
set_option linter.unusedVariables false
set_option linter.unusedSimpArgs false
def xorU (a b : Int) : Int := IntKind.u64.wrap ↑(BitVec.ofInt 64 a ^^^ BitVec.ofInt 64 b).toNat
def mix1 (z : Int) : Int := IntKind.u64.wrap (xorU z (z / 1073741824) * 13787848793156543929)
def mix2 (z : Int) : Int := IntKind.u64.wrap (xorU z (z / 134217728) * 10723151780598845931)
def mix3 (z : Int) : Int := xorU z (z / 2147483648)
def mixF (z : Int) : Int := mix3 (mix2 (mix1 z))
theorem wU (x : Int) : 0 ≤ IntKind.u64.wrap x ∧ IntKind.u64.wrap x ≤ 18446744073709551615 := by rw [IntKind.wrap_u64]; omega
theorem wU_id {x : Int} (h : 0 ≤ x ∧ x ≤ 18446744073709551615) : IntKind.u64.wrap x = x := by rw [IntKind.wrap_u64]; omega
theorem divU {x : Int} (k : Int) (h : 0 ≤ x ∧ x ≤ 18446744073709551615) (hk : 1 ≤ k) : IntKind.u64.wrap (x.tdiv k) = x / k := by
  rw [Int.tdiv_eq_ediv_of_nonneg h.1]
  refine wU_id ⟨Int.ediv_nonneg h.1 (by omega), Int.le_trans (Int.ediv_le_self _ h.1) h.2⟩
theorem fdivU {x : Int} (k : Int) (h : 0 ≤ x) (hk : 1 ≤ k) : x.fdiv k = x / k := Int.fdiv_eq_ediv_of_nonneg x (by omega)
theorem t27 (x : Int) : IntKind.u64.wrap ((IntKind.u64.wrap x).tdiv 134217728) = IntKind.u64.wrap x / 134217728 := divU _ (wU x) (by decide)
theorem t31 (x : Int) : IntKind.u64.wrap ((IntKind.u64.wrap x).tdiv 2147483648) = IntKind.u64.wrap x / 2147483648 := divU _ (wU x) (by decide)
theorem f30 (x : Int) : (IntKind.u64.wrap x).fdiv (2 ^ min 30 64) = IntKind.u64.wrap x / 1073741824 := fdivU _ (wU x).1 (by decide)
theorem f27 (x : Int) : (IntKind.u64.wrap x).fdiv (2 ^ min 27 64) = IntKind.u64.wrap x / 134217728 := fdivU _ (wU x).1 (by decide)
theorem f31 (x : Int) : (IntKind.u64.wrap x).fdiv (2 ^ min 31 64) = IntKind.u64.wrap x / 2147483648 := fdivU _ (wU x).1 (by decide)
theorem mixF_nn (z : Int) : 0 ≤ mixF z ∧ mixF z ≤ 18446744073709551615 := wU _
theorem mixed_ok (z : Int) (hz : 0 ≤ z ∧ z ≤ 18446744073709551615) : Ok Try.prog 24 [vU z] (vU (mixF z)) := by
  have t30 : IntKind.u64.wrap (z.tdiv 1073741824) = z / 1073741824 := divU _ hz (by decide)
  refine Ok.of_pwp (by kernel_rfl) Try.func24 rfl (by kernel_rfl) (by kernel_rfl) ?_
  simp (implicitDefEqProofs := false) (disch := omega) only [go_sem, reduceCtorEq, Nat.reduceEqDiff, Nat.reduceBEq, ↓reduceIte, Nat.reduceGT, Nat.reduceAdd, Int.reduceEq, Int.reduceLT, Int.reduceLE, Int.reduceNeg, Int.reduceAdd, Int.reduceSub, Int.reduceMul, Int.reduceDiv, Int.reduceMod, Nat.reduceLT, Nat.reduceLeDiff, Nat.reduceMul, Nat.reduceSub, Int.reduceToNat, go_sem, Nat.le_refl, encI_len, ↓ix_enc, Try.results24, t27, t31, t30]
  rfl
/-- A mixed number, below its bound; the state behind it. -/
def mxS (z b : Int) : Int := if okB b then IntKind.u64.wrap (z + 11400714819323198485) else z
def mxN (z b : Int) : Int := if okB b then (mixF (IntKind.u64.wrap (z + 11400714819323198485))).tmod b else 0
set_option maxHeartbeats 2000000 in
theorem mnext_I (z u b : Int) (hz : 0 ≤ z ∧ z ≤ 18446744073709551615) (hu : 0 ≤ u ∧ u ≤ 1000000) : OkI Try.prog 46 [.ptr 0 0, vI b] ⟨[], [(0, .box 67 [vI u, vU z])], [], 1, 0⟩ (fun r st' => r = vI (mxN z b) ∧ st' = ⟨[], [(0, .box 67 [vI (usedN u b), vU (mxS z b)])], [], 1, 0⟩) := by
  have c := asked_I 67 u b (vU z) hu rfl
  refine OkI.of_pwp (by kernel_rfl) Try.func46 rfl (by kernel_rfl) (by kernel_rfl) ?_
  cases hb : okB b with
  | false =>
    rw [hb] at c
    have hun : usedN u b = u := by rw [usedN, hb]; rfl
    have h1 : mxS z b = z := by rw [mxS, hb]; rfl
    have h2 : mxN z b = 0 := by rw [mxN, hb]; rfl
    rw [hun] at c
    simp (implicitDefEqProofs := false) (disch := omega) only [go_sem, reduceCtorEq, Nat.reduceEqDiff, Nat.reduceBEq, ↓reduceIte, Nat.reduceGT, Nat.reduceAdd, Int.reduceEq, Int.reduceLT, Int.reduceLE, Int.reduceNeg, Int.reduceAdd, Int.reduceSub, Int.reduceMul, Int.reduceDiv, Int.reduceMod, Nat.reduceLT, Nat.reduceLeDiff, Nat.reduceMul, Nat.reduceSub, Int.reduceToNat, go_sem, Nat.le_refl, encI_len, ↓ix_enc, Try.results46, hb, hun, f30, f27, f31]
    refine CallOk.ofI (OkI.frame1 (st := ⟨[], _, _, _, _⟩) (a := 0) c (by simp only; omega) rfl rfl rfl rfl) rfl rfl rfl rfl ?_
    rintro r st1 ⟨r0, s, ⟨rfl, rfl⟩, rfl, rfl⟩
    simp (implicitDefEqProofs := false) (disch := omega) only [go_sem, reduceCtorEq, Nat.reduceEqDiff, Nat.reduceBEq, ↓reduceIte, Nat.reduceGT, Nat.reduceAdd, Int.reduceEq, Int.reduceLT, Int.reduceLE, Int.reduceNeg, Int.reduceAdd, Int.reduceSub, Int.reduceMul, Int.reduceDiv, Int.reduceMod, Nat.reduceLT, Nat.reduceLeDiff, Nat.reduceMul, Nat.reduceSub, Int.reduceToNat, go_sem, Nat.le_refl, encI_len, ↓ix_enc, Try.results46, hb, hun, f30, f27, f31]
    refine ⟨_, ⟨by rw [h2], rfl⟩, ?_⟩
    refine ⟨?_, ?_, ?_, ?_, ?_, ?_, ?_⟩ <;> simp only [mem_cons_, mem_nil_, lkp, hold_eq, b_some, frz_self, frz1_self, frzL_self, frzO_self, frzO_box, frzO_iter, frzL_cons, frzL_nil, frz_agg, frz1_row, frz1_nil, frz1_val, frz1_sl, frz1_rr, frz1_ptr, frz1_ms, frz_val, frz_sl, frz_row, frz_ptr, frz_ms, frz_fp, frz_tup, frz_fn, PV.lt, PV.ltL, PObj.lt, decide_true, Bool.true_and, Bool.and_true, Bool.and_self, Nat.reduceLT, Nat.reduceLeDiff, Nat.reduceEqDiff, if_true, if_false, ↓reduceIte, and_true, true_and, Nat.zero_le, reduceCtorEq, eq_self, decide_eq_true_eq, hun, h1] <;> try first | omega | ((repeat' (first | exact And.intro rfl (by omega) | (refine And.intro ?_ ?_))) <;> first | rfl | omega | (congr 3; omega) | (congr 2; omega))
  | true =>
    rw [hb] at c
    have hun : usedN u b = u + 1 := by rw [usedN, hb]; rfl
    have hb2 : 1 ≤ b ∧ b ≤ 4294967296 := by simpa [okB] using hb
    have wb : IntKind.u64.wrap b = b := wU_id (by omega)
    have h1 : mxS z b = IntKind.u64.wrap (z + 11400714819323198485) := by rw [mxS, hb]; rfl
    have h2 : mxN z b = (mixF (IntKind.u64.wrap (z + 11400714819323198485))).tmod b := by rw [mxN, hb]; rfl
    rw [hun] at c
    simp (implicitDefEqProofs := false) (disch := omega) only [go_sem, reduceCtorEq, Nat.reduceEqDiff, Nat.reduceBEq, ↓reduceIte, Nat.reduceGT, Nat.reduceAdd, Int.reduceEq, Int.reduceLT, Int.reduceLE, Int.reduceNeg, Int.reduceAdd, Int.reduceSub, Int.reduceMul, Int.reduceDiv, Int.reduceMod, Nat.reduceLT, Nat.reduceLeDiff, Nat.reduceMul, Nat.reduceSub, Int.reduceToNat, go_sem, Nat.le_refl, encI_len, ↓ix_enc, Try.results46, hb, hun, f30, f27, f31]
    refine CallOk.ofI (OkI.frame1 (st := ⟨[], _, _, _, _⟩) (a := 0) c (by simp only; omega) rfl rfl rfl rfl) rfl rfl rfl rfl ?_
    rintro r st1 ⟨r0, s, ⟨rfl, rfl⟩, rfl, rfl⟩
    simp (implicitDefEqProofs := false) (disch := omega) only [go_sem, reduceCtorEq, Nat.reduceEqDiff, Nat.reduceBEq, ↓reduceIte, Nat.reduceGT, Nat.reduceAdd, Int.reduceEq, Int.reduceLT, Int.reduceLE, Int.reduceNeg, Int.reduceAdd, Int.reduceSub, Int.reduceMul, Int.reduceDiv, Int.reduceMod, Nat.reduceLT, Nat.reduceLeDiff, Nat.reduceMul, Nat.reduceSub, Int.reduceToNat, go_sem, Nat.le_refl, encI_len, ↓ix_enc, Try.results46, hb, hun, f30, f27, f31, wb]
    refine ⟨_, ⟨?_, rfl⟩, ?_⟩
    · rw [h2]
      have g1 := (mixF_nn (IntKind.u64.wrap (z + 11400714819323198485))).1
      have g2 := Int.tmod_lt_of_pos (mixF (IntKind.u64.wrap (z + 11400714819323198485))) (show 0 < b by omega)
      have g3 := Int.tmod_nonneg b g1
      show PV.val (.int .i64 (IntKind.i64.wrap ((mixF (IntKind.u64.wrap (z + 11400714819323198485))).tmod b))) = _
      rw [IntKind.wrap_i64]
      congr 2
      omega
    · refine ⟨?_, ?_, ?_, ?_, ?_, ?_, ?_⟩ <;> simp only [mem_cons_, mem_nil_, lkp, hold_eq, b_some, frz_self, frz1_self, frzL_self, frzO_self, frzO_box, frzO_iter, frzL_cons, frzL_nil, frz_agg, frz1_row, frz1_nil, frz1_val, frz1_sl, frz1_rr, frz1_ptr, frz1_ms, frz_val, frz_sl, frz_row, frz_ptr, frz_ms, frz_fp, frz_tup, frz_fn, PV.lt, PV.ltL, PObj.lt, decide_true, Bool.true_and, Bool.and_true, Bool.and_self, Nat.reduceLT, Nat.reduceLeDiff, Nat.reduceEqDiff, if_true, if_false, ↓reduceIte, and_true, true_and, Nat.zero_le, reduceCtorEq, eq_self, decide_eq_true_eq, hun, h1] <;> try first | omega | ((repeat' (first | exact And.intro rfl (by omega) | (refine And.intro ?_ ?_))) <;> first | rfl | omega | (congr 3; omega) | (congr 2; omega))
end Go.Proofs.Ytmenmfibpbpblaa
