/-
  strings.Builder: WriteString by contract.
-/
import Derived.Test.YtfhdokpcnkpcpaaB2
open Go Go.Proofs Go.Pw Go.RowKit
namespace Go.Proofs.Ytfhdokpcnkpcpaa
set_option linter.unusedVariables false
set_option linter.unusedSimpArgs false
/-- What lies in memory: a builder that holds s, its row of number k. -/
def bldH (id k : Nat) (a : PV) (s : ByteArray) : List (Nat × PObj) := [(id, .box 54 [a, rowS k s])]
def wrQ (id nx nt : Nat) (s : ByteArray) (n : Int) (r : PV) (st : PS) : Prop := r = .tup [vI n, .val .nilIface] ∧ ∃ k, nt ≤ st.nt ∧ k < st.nt ∧ st.nx = nx ∧ st.heap = bldH id k (.ptr id 0) s ∧ st.toks = tokS k 5 s
set_option maxHeartbeats 2000000 in
theorem write_ok (s t : ByteArray) (id k nx nt : Nat) (a : PV) (ha : a = vNP ∨ a = .ptr id 0) (hid : id < nx) (hk : k < nt) (h0 : t.size ≠ 0) (hl : s.size + t.size ≤ 1000000) :
    OkI Try.prog 29 [.ptr id 0, vS t] ⟨[], bldH id k a s, tokS k 5 s, nx, nt⟩ (wrQ id nx nt (s ++ t) t.size) := by
  refine OkI.of_pwp (by kernel_rfl) Try.func29 rfl (by kernel_rfl) (by kernel_rfl) ?_
  have hst : (s ++ t).size = s.size + t.size := by simp
  have hne : ¬ (s ++ t).size = 0 := by omega
  by_cases hs : s.size = 0
  · have es : s ++ t = t := by
      have : s = ByteArray.empty := by
        cases s with
        | mk d => congr 1; exact Array.size_eq_zero_iff.1 hs
      rw [this]
      simp
    simp only [bldH, rowS, tokS, hs, if_true]
    simp (implicitDefEqProofs := false) (disch := omega) only [go_sem, reduceCtorEq, Nat.reduceEqDiff, Nat.reduceBEq, ↓reduceIte, Nat.reduceGT, Nat.reduceAdd, Int.reduceEq, Int.reduceLT, Int.reduceLE, Int.reduceNeg, Int.reduceAdd, Int.reduceSub, Int.reduceMul, Int.reduceDiv, Int.reduceMod, Nat.reduceLT, Nat.reduceLeDiff, Nat.reduceMul, Nat.reduceSub, Int.reduceToNat, go_sem, Nat.le_refl, Try.results29]
    refine CallOk.ofI (copy_ok id _ _ _ _ [] ha) rfl rfl rfl rfl ?_
    rintro r st1 ⟨rfl, rfl⟩
    simp (implicitDefEqProofs := false) (disch := omega) only [go_sem, reduceCtorEq, Nat.reduceEqDiff, Nat.reduceBEq, ↓reduceIte, Nat.reduceGT, Nat.reduceAdd, Int.reduceEq, Int.reduceLT, Int.reduceLE, Int.reduceNeg, Int.reduceAdd, Int.reduceSub, Int.reduceMul, Int.reduceDiv, Int.reduceMod, Nat.reduceLT, Nat.reduceLeDiff, Nat.reduceMul, Nat.reduceSub, Int.reduceToNat, go_sem, Nat.le_refl, Try.results29]
    rw [es]
    refine ⟨⟨[], bldH id (nt + 2 + 1 + 2 + 6) (.ptr id 0) t, tokS (nt + 2 + 1 + 2 + 6) 5 t, nx, nt + 2 + 1 + 2 + 10⟩, ⟨rfl, nt + 2 + 1 + 2 + 6, by simp only; omega, by simp only; omega, rfl, rfl, rfl⟩, ?_⟩
    simp only [bldH, rowS, tokS, h0, if_false]
    refine ⟨?_, ?_, ?_, ?_, ?_, ?_, ?_⟩ <;> simp only [mem_cons_, mem_nil_, lkp, PV.lt, PV.ltL, PObj.lt, decide_true, Bool.and_true, Bool.and_self, Nat.reduceLT, Nat.reduceLeDiff, Nat.reduceEqDiff, if_true, if_false, ↓reduceIte, and_true, true_and, Nat.zero_le, reduceCtorEq, eq_self, decide_eq_true_eq, ite_self] <;> try first | omega | ((repeat' (first | exact And.intro rfl (by omega) | (refine And.intro ?_ ?_))) <;> first | rfl | omega | (congr 3; omega) | (congr 2; omega))
    exact ⟨hid, by simp; omega⟩
  · simp only [bldH, rowS, tokS, hs, if_false]
    simp (implicitDefEqProofs := false) (disch := omega) only [go_sem, reduceCtorEq, Nat.reduceEqDiff, Nat.reduceBEq, ↓reduceIte, Nat.reduceGT, Nat.reduceAdd, Int.reduceEq, Int.reduceLT, Int.reduceLE, Int.reduceNeg, Int.reduceAdd, Int.reduceSub, Int.reduceMul, Int.reduceDiv, Int.reduceMod, Nat.reduceLT, Nat.reduceLeDiff, Nat.reduceMul, Nat.reduceSub, Int.reduceToNat, go_sem, Nat.le_refl, Try.results29]
    refine CallOk.ofI (copy_ok id _ _ _ _ _ ha) rfl rfl rfl rfl ?_
    rintro r st1 ⟨rfl, rfl⟩
    simp (implicitDefEqProofs := false) (disch := omega) only [go_sem, reduceCtorEq, Nat.reduceEqDiff, Nat.reduceBEq, ↓reduceIte, Nat.reduceGT, Nat.reduceAdd, Int.reduceEq, Int.reduceLT, Int.reduceLE, Int.reduceNeg, Int.reduceAdd, Int.reduceSub, Int.reduceMul, Int.reduceDiv, Int.reduceMod, Nat.reduceLT, Nat.reduceLeDiff, Nat.reduceMul, Nat.reduceSub, Int.reduceToNat, go_sem, Nat.le_refl, Try.results29]
    refine ⟨⟨[], bldH id k (.ptr id 0) (s ++ t), tokS k 5 (s ++ t), nx, nt⟩, ⟨rfl, k, by simp only; omega, by simp only; omega, rfl, rfl, rfl⟩, ?_⟩
    simp only [bldH, rowS, tokS, hne, if_false]
    simp only [hst]
    refine ⟨?_, ?_, ?_, ?_, ?_, ?_, ?_⟩ <;> simp only [mem_cons_, mem_nil_, lkp, PV.lt, PV.ltL, PObj.lt, decide_true, Bool.and_true, Bool.and_self, Nat.reduceLT, Nat.reduceLeDiff, Nat.reduceEqDiff, if_true, if_false, ↓reduceIte, and_true, true_and, Nat.zero_le, reduceCtorEq, eq_self, decide_eq_true_eq, ite_self] <;> try first | omega | ((repeat' (first | exact And.intro rfl (by omega) | (refine And.intro ?_ ?_))) <;> first | rfl | omega | (congr 3; omega) | (congr 2; omega))
    exact ⟨hid, by simp; omega⟩
theorem bld_weak (id k nx nt : Nat) (a : PV) (s : ByteArray) (h : id < nx) (hk : k < nt) (ha : a.lt nx nt = true) : ∀ e ∈ bldH id k a s, lkp (bldH id k a s) e.1 = some e.2 ∧ e.1 < nx ∧ e.2.lt nx nt = true := by
  intro e he
  simp only [bldH, List.mem_singleton] at he
  subst he
  refine ⟨by simp [bldH, lkp], h, ?_⟩
  simp only [PObj.lt, PV.ltL, ha, rowS]
  split <;> simp [PV.lt, hk]
theorem tokS_weak (k nt : Nat) (t : TypeId) (s : ByteArray) (hk : k < nt) : ∀ e ∈ tokS k t s, lkp (tokS k t s) e.1 = some e.2 ∧ e.1 < nt := by
  unfold tokS
  split
  · intro e he; cases he
  · intro e he
    simp only [List.mem_singleton] at he
    subst he
    exact ⟨by simp [lkp], hk⟩
end Go.Proofs.Ytfhdokpcnkpcpaa
