/-
  An integer's text is a number's text, and says it.
-/
import Derived.Test.YtegehnojbfedlaaDoorTX
import Derived.Lib.ItoaLen
open Go Go.Proofs Go.Pw
namespace Go.Proofs.YtegehnojbfedlaaDoor
set_option maxRecDepth 4000
set_option linter.unusedVariables false
set_option linter.unusedSimpArgs false
def dS (n : Nat) : ByteArray := ⟨(Lib.decDigits n).toArray⟩
theorem bt_arr (l : List UInt8) (i : Nat) : bt ⟨l.toArray⟩ i = ((l.getD i 0).toNat : Int) := rfl
theorem numV_app (l m : List UInt8) : ∀ i, i ≤ l.length → numV ⟨(l ++ m).toArray⟩ i = numV ⟨l.toArray⟩ i
  | 0, _ => rfl
  | i + 1, h => by
    rw [numV, numV, numV_app l m i (by omega), bt_arr, bt_arr, List.getD_eq_getElem?_getD, List.getElem?_append_left (by omega), ← List.getD_eq_getElem?_getD]
theorem dD_len (n : Nat) : (Lib.decDigits n).length = Lib.nDigits n := by rw [decD_pad, padD_len]
theorem dS_size (n : Nat) : (dS n).size = Lib.nDigits n := dD_len n
theorem dig_nat {d : Nat} (h : d < 10) : (UInt8.ofNat (48 + d)).toNat = 48 + d := by
  rw [UInt8.toNat_ofNat']
  omega
theorem numV_dec (n : Nat) : numV (dS n) (Lib.nDigits n) = n := by
  induction n using Nat.strongRecOn with
  | _ n ih =>
    by_cases h : n < 10
    · have e : dS n = ⟨#[UInt8.ofNat (48 + n)]⟩ := by unfold dS; rw [Lib.decDigits, dif_pos h]
      rw [Lib.nDigits_small h, e]
      show 0 * 10 + (((UInt8.ofNat (48 + n)).toNat : Int) - 48) = n
      rw [dig_nat h]; omega
    · have e : dS n = ⟨(Lib.decDigits (n / 10) ++ [UInt8.ofNat (48 + n % 10)]).toArray⟩ := by
        unfold dS; rw [Lib.decDigits, dif_neg h]
      rw [Lib.nDigits_big h, e, numV, numV_app _ _ _ (by rw [dD_len]; exact Nat.le_refl _), bt_arr]
      have := ih (n / 10) (by omega)
      unfold dS at this
      rw [this, List.getD_eq_getElem?_getD, List.getElem?_append_right (by rw [dD_len]; exact Nat.le_refl _), dD_len, Nat.sub_self]
      show (n / 10 : Nat) * (10 : Int) + (((UInt8.ofNat (48 + n % 10)).toNat : Int) - 48) = n
      rw [dig_nat (Nat.mod_lt _ (by decide))]; omega
theorem padD_get : ∀ (k n j : Nat), j < k → ((padD n k).getD j 0).toNat = 48 + n / 10 ^ (k - 1 - j) % 10
  | 0, _, _, h => absurd h (by omega)
  | k + 1, n, j, h => by
    rw [padD_front]
    cases j with
    | zero =>
      rw [List.getD_cons_zero, dig_nat (Nat.mod_lt _ (by decide))]; rfl
    | succ j =>
      rw [List.getD_cons_succ, padD_get k n j (by omega), show k + 1 - 1 - (j + 1) = k - 1 - j by omega]
theorem dS_bt {n j : Nat} (h : j < Lib.nDigits n) : bt (dS n) j = ((48 + n / 10 ^ (Lib.nDigits n - 1 - j) % 10 : Nat) : Int) := by
  unfold dS
  rw [bt_arr, decD_pad, padD_get _ _ _ h]
theorem dS_all (n : Nat) : allD (dS n) 0 := by
  intro j hj _
  rw [dS_size] at hj
  rw [dS_bt hj]
  have := Nat.mod_lt (n / 10 ^ (Lib.nDigits n - 1 - j)) (show 0 < 10 by decide)
  unfold isD
  omega
theorem dS_lead (n : Nat) : ¬ (bt (dS n) 0 = 48 ∧ 1 < (dS n).size) := by
  rintro ⟨h1, h2⟩
  rw [dS_size] at h2
  have h0 := dS_bt (n := n) (j := 0) (by omega)
  have h1' : bt (dS n) ((0 : Nat) : Int) = 48 := h1
  rw [h1'] at h0
  by_cases hn : n = 0
  · subst hn; rw [Lib.nDigits_small (by decide)] at h2; omega
  · obtain ⟨t, ht⟩ : ∃ t, Lib.nDigits n = t + 1 := ⟨Lib.nDigits n - 1, by omega⟩
    rw [ht] at h0
    have h3 := (nD_gt t n (by omega)).1 (by omega)
    have h4 : ¬ 10 ^ (t + 1) ≤ n := fun k => by have := (nD_gt (t + 1) n (by omega)).2 k; omega
    have h5 : n / 10 ^ t < 10 := by
      rw [Nat.div_lt_iff_lt_mul (Nat.pow_pos (by decide)), Nat.mul_comm, ← Nat.pow_succ]; omega
    have h6 := (Nat.le_div_iff_mul_le (Nat.pow_pos (by decide : 0 < 10) : 0 < 10 ^ t) (x := 1) (y := n)).2 (by omega)
    rw [show t + 1 - 1 - 0 = t by omega, Nat.mod_eq_of_lt h5] at h0
    omega
theorem dS_first (n : Nat) : bt (dS n) 0 ≠ 45 := by
  have h0 := Lib.nDigits_pos n
  have := dS_all n 0 (by rw [dS_size]; omega) (Nat.le_refl _)
  have e : bt (dS n) ((0 : Nat) : Int) = bt (dS n) 0 := rfl
  unfold isD at this
  omega
theorem sOf_dig (n : Int) : digS (sOf n) = dS n.natAbs ∧ (bt (sOf n) 0 = 45 ↔ n < 0) := by
  by_cases h : n < 0
  · have e := sOf_neg h
    have hb : bt (sOf n) 0 = 45 := by
      rw [← e]
      show bt ((⟨#[45]⟩ : ByteArray) ++ dS n.natAbs) 0 = 45
      unfold bt
      simp
    refine ⟨?_, iff_of_true hb h⟩
    unfold digS
    rw [if_pos hb, ← e]
    apply ByteArray.ext
    apply Array.toList_inj.1
    rw [ext_list]
    simp [dS, ByteArray.size]
  · have e := sOf_pos (n := n) (by omega)
    have hb : bt (sOf n) 0 ≠ 45 := by rw [e]; exact dS_first _
    refine ⟨?_, iff_of_false hb h⟩
    unfold digS
    rw [if_neg hb, e]
    rfl
theorem sOf_form (n : Int) : formP (sOf n) := by
  rw [form_dig, (sOf_dig n).1]
  exact ⟨by rw [dS_size]; exact Lib.nDigits_pos _, dS_lead _, dS_all _⟩
theorem sOf_z (n : Int) : zOf (sOf n) = n := by
  unfold zOf
  rw [(sOf_dig n).1, dS_size, numV_dec]
  split
  · rename_i h
    have := (sOf_dig n).2.1 h
    omega
  · rename_i h
    have := mt (sOf_dig n).2.2 h
    omega
theorem sOf_size (n : Int) (h : fits n) : (sOf n).size ≤ 21 := by
  show (Lib.itoa n).toArray.size ≤ 21
  rw [List.size_toArray]
  exact Lib.itoa_length_le n h.1 h.2
theorem sOf_pC (n : Int) (h : fits n) : pC (sOf n) = 0 := pC_0 (sOf_form n) (by rw [sOf_z]; exact h)
theorem sOf_pV (n : Int) (h : fits n) : pV (sOf n) = n := by rw [pV_0 (sOf_pC n h), sOf_z]
theorem pV_fits (s : ByteArray) : fits (pV s) := by
  by_cases h : pC s = 0
  · rw [pV_0 h]
    by_cases hf : formP s
    · apply Decidable.byContradiction
      intro k
      rw [pC_4 hf k] at h
      cases h
    · rw [pC_1 hf] at h; cases h
  · rw [pV_n h]; decide
end Go.Proofs.YtegehnojbfedlaaDoor
