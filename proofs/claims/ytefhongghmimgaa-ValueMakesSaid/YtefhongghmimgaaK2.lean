/-
  Contracts and plain laws on the way to the statement; each says its own conditions.
-/

import Derived.Test.YtefhongghmimgaaK1
import Derived.Lib.DecodeN
open Go Go.Proofs Go.Pw
namespace Go.Proofs.Ytefhongghmimgaa
set_option maxRecDepth 4000
set_option linter.unusedVariables false
set_option linter.unusedSimpArgs false
def byteN (s : ByteArray) (i : Nat) : Nat := (s.data.toList.getD i 0).toNat
theorem byteN_lt (s : ByteArray) (i : Nat) : byteN s i < 256 := UInt8.toNat_lt _
theorem bt_byteN (s : ByteArray) (i : Nat) : bt s i = byteN s i := rfl
theorem get!_byteN (s : ByteArray) (i : Nat) : (s.get! i).toNat = byteN s i := by
  unfold byteN
  cases s with
  | mk a =>
    show (a[i]!).toNat = _
    rw [getElem!_def, List.getD_eq_getElem?_getD]
    simp only [Array.getElem?_toList]
    cases a[i]? <;> rfl
def goodN (r : Nat × Nat) : Int × Int := if r = (65533, 1) then (-1, 0) else (r.1, r.2)
theorem try1 (s : ByteArray) (i : Nat) : (isF (accF s i 1 0) && sameF (bytesF (accF s i 1 0)) s i 1 1) = decide (byteN s i < 128) := by
  have hb := byteN_lt s i
  have e : accF s i 1 0 = byteN s i := by simp [accF, headF, bt_byteN]
  rw [e]
  simp only [sameF, isF, Int.natCast_zero, Int.add_zero, bt_byteN]
  unfold bytesF
  rw [Bool.eq_iff_iff]
  simp only [Bool.and_eq_true, decide_eq_true_eq]
  split
  · simp; omega
  · rw [if_pos (by omega)]
    simp
    omega
theorem try2 (s : ByteArray) (i : Nat) : (isF (accF s i 2 1) && sameF (bytesF (accF s i 2 1)) s i 2 2) = decide (194 ≤ byteN s i ∧ byteN s i < 224 ∧ 128 ≤ byteN s (i + 1) ∧ byteN s (i + 1) < 192) := by
  have hb := byteN_lt s i
  have hb1 := byteN_lt s (i + 1)
  have e : accF s i 2 1 = ((byteN s i : Int) - 192) * 64 + byteN s (i + 1) - 128 := by
    have : ((i : Int) + (((0 : Nat) : Int) + 1)) = ((i + 1 : Nat) : Int) := by omega
    simp only [accF, headF, bt_byteN, this]
  rw [e]
  have e1 : ((i : Int) + ((1 : Nat) : Int)) = ((i + 1 : Nat) : Int) := by omega
  simp only [sameF, isF, Int.natCast_zero, Int.add_zero, bt_byteN, e1]
  generalize byteN s i = x at *
  generalize byteN s (i + 1) = y at *
  unfold bytesF
  rw [Bool.eq_iff_iff]
  simp only [Bool.and_eq_true, decide_eq_true_eq]
  repeat' split
  all_goals simp
  all_goals omega
theorem try3 (s : ByteArray) (i : Nat) : (isF (accF s i 3 2) && sameF (bytesF (accF s i 3 2)) s i 3 3) = decide (224 ≤ byteN s i ∧ byteN s i < 240 ∧ 128 ≤ byteN s (i + 1) ∧ byteN s (i + 1) < 192 ∧ 128 ≤ byteN s (i + 2) ∧ byteN s (i + 2) < 192 ∧
    2048 ≤ (byteN s i - 224) * 4096 + (byteN s (i + 1) - 128) * 64 + (byteN s (i + 2) - 128) ∧ ((byteN s i - 224) * 4096 + (byteN s (i + 1) - 128) * 64 + (byteN s (i + 2) - 128) < 55296 ∨ 57344 ≤ (byteN s i - 224) * 4096 + (byteN s (i + 1) - 128) * 64 + (byteN s (i + 2) - 128))) := by
  have hb := byteN_lt s i
  have hb1 := byteN_lt s (i + 1)
  have hb2 := byteN_lt s (i + 2)
  have e : accF s i 3 2 = (((byteN s i : Int) - 224) * 64 + byteN s (i + 1) - 128) * 64 + byteN s (i + 2) - 128 := by
    have h1 : ((i : Int) + (((0 : Nat) : Int) + 1)) = ((i + 1 : Nat) : Int) := by omega
    have h2 : ((i : Int) + (((1 : Nat) : Int) + 1)) = ((i + 2 : Nat) : Int) := by omega
    simp only [accF, headF, bt_byteN, h1, h2]
  rw [e]
  have e1 : ((i : Int) + ((1 : Nat) : Int)) = ((i + 1 : Nat) : Int) := by omega
  have e2 : ((i : Int) + ((2 : Nat) : Int)) = ((i + 2 : Nat) : Int) := by omega
  simp only [sameF, isF, Int.natCast_zero, Int.add_zero, bt_byteN, e1, e2]
  generalize byteN s i = x at *
  generalize byteN s (i + 1) = y at *
  generalize byteN s (i + 2) = z at *
  unfold bytesF
  rw [Bool.eq_iff_iff]
  simp only [Bool.and_eq_true, decide_eq_true_eq]
  repeat' split
  all_goals simp
  all_goals omega
theorem try4 (s : ByteArray) (i : Nat) : (isF (accF s i 4 3) && sameF (bytesF (accF s i 4 3)) s i 4 4) = decide (240 ≤ byteN s i ∧ byteN s i < 248 ∧ 128 ≤ byteN s (i + 1) ∧ byteN s (i + 1) < 192 ∧ 128 ≤ byteN s (i + 2) ∧ byteN s (i + 2) < 192 ∧ 128 ≤ byteN s (i + 3) ∧ byteN s (i + 3) < 192 ∧
    65536 ≤ (byteN s i - 240) * 262144 + (byteN s (i + 1) - 128) * 4096 + (byteN s (i + 2) - 128) * 64 + (byteN s (i + 3) - 128) ∧ (byteN s i - 240) * 262144 + (byteN s (i + 1) - 128) * 4096 + (byteN s (i + 2) - 128) * 64 + (byteN s (i + 3) - 128) ≤ 1114111) := by
  have hb := byteN_lt s i
  have hb1 := byteN_lt s (i + 1)
  have hb2 := byteN_lt s (i + 2)
  have hb3 := byteN_lt s (i + 3)
  have e : accF s i 4 3 = ((((byteN s i : Int) - 240) * 64 + byteN s (i + 1) - 128) * 64 + byteN s (i + 2) - 128) * 64 + byteN s (i + 3) - 128 := by
    have h1 : ((i : Int) + (((0 : Nat) : Int) + 1)) = ((i + 1 : Nat) : Int) := by omega
    have h2 : ((i : Int) + (((1 : Nat) : Int) + 1)) = ((i + 2 : Nat) : Int) := by omega
    have h3 : ((i : Int) + (((2 : Nat) : Int) + 1)) = ((i + 3 : Nat) : Int) := by omega
    simp only [accF, headF, bt_byteN, h1, h2, h3]
  rw [e]
  have e1 : ((i : Int) + ((1 : Nat) : Int)) = ((i + 1 : Nat) : Int) := by omega
  have e2 : ((i : Int) + ((2 : Nat) : Int)) = ((i + 2 : Nat) : Int) := by omega
  have e3 : ((i : Int) + ((3 : Nat) : Int)) = ((i + 3 : Nat) : Int) := by omega
  simp only [sameF, isF, Int.natCast_zero, Int.add_zero, bt_byteN, e1, e2, e3]
  generalize byteN s i = x at *
  generalize byteN s (i + 1) = y at *
  generalize byteN s (i + 2) = z at *
  generalize byteN s (i + 3) = t at *
  unfold bytesF
  rw [Bool.eq_iff_iff]
  simp only [Bool.and_eq_true, decide_eq_true_eq]
  repeat' split
  all_goals simp
  all_goals omega
theorem acc1 (s : ByteArray) (i : Nat) : accF s i 1 0 = byteN s i := by simp [accF, headF, bt_byteN]
theorem acc2 (s : ByteArray) (i : Nat) : accF s i 2 1 = ((byteN s i : Int) - 192) * 64 + byteN s (i + 1) - 128 := by
  have : ((i : Int) + (((0 : Nat) : Int) + 1)) = ((i + 1 : Nat) : Int) := by omega
  simp only [accF, headF, bt_byteN, this]
theorem acc3 (s : ByteArray) (i : Nat) : accF s i 3 2 = (((byteN s i : Int) - 224) * 64 + byteN s (i + 1) - 128) * 64 + byteN s (i + 2) - 128 := by
  have h1 : ((i : Int) + (((0 : Nat) : Int) + 1)) = ((i + 1 : Nat) : Int) := by omega
  have h2 : ((i : Int) + (((1 : Nat) : Int) + 1)) = ((i + 2 : Nat) : Int) := by omega
  simp only [accF, headF, bt_byteN, h1, h2]
theorem acc4 (s : ByteArray) (i : Nat) : accF s i 4 3 = ((((byteN s i : Int) - 240) * 64 + byteN s (i + 1) - 128) * 64 + byteN s (i + 2) - 128) * 64 + byteN s (i + 3) - 128 := by
  have h1 : ((i : Int) + (((0 : Nat) : Int) + 1)) = ((i + 1 : Nat) : Int) := by omega
  have h2 : ((i : Int) + (((1 : Nat) : Int) + 1)) = ((i + 2 : Nat) : Int) := by omega
  have h3 : ((i : Int) + (((2 : Nat) : Int) + 1)) = ((i + 3 : Nat) : Int) := by omega
  simp only [accF, headF, bt_byteN, h1, h2, h3]
set_option maxHeartbeats 4000000 in
/-- What the reference finds first is what the model's decode finds. -/
theorem first_decode (s : ByteArray) (i : Nat) (h : i < s.size) : firstF s i 4 1 = goodN (Utf8.decode s i) := by
  rw [Lib.decode_at]
  simp only [get!_byteN]
  have hb := byteN_lt s i
  have hb1 := byteN_lt s (i + 1)
  have hb2 := byteN_lt s (i + 2)
  have hb3 := byteN_lt s (i + 3)
  simp only [firstF, Nat.reduceSub, Nat.reduceAdd, try1, try2, try3, try4]
  simp only [acc1, acc2, acc3, acc4, decide_eq_true_eq]
  unfold Lib.decodeN
  generalize byteN s i = x at *
  generalize byteN s (i + 1) = y at *
  generalize byteN s (i + 2) = z at *
  generalize byteN s (i + 3) = t at *
  rw [if_neg (by omega)]
  unfold goodN
  repeat' split
  all_goals first
    | rfl
    | (exfalso; omega)
    | exact absurd rfl (by assumption)
    | exact Prod.ext (by simp only; omega) rfl
    | (simp only [Prod.mk.injEq] at *; omega)

end Go.Proofs.Ytefhongghmimgaa
