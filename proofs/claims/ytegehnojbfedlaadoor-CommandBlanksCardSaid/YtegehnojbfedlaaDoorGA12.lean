/-
  Contracts and plain laws on the way to the statement; each says its own conditions.
-/
import Derived.Test.YtegehnojbfedlaaDoorGA7
import Derived.Lib.ItoaLen
import Derived.Test.YtegehnojbfedlaaDoorGA11
section
/-
  A number's text, by the document.
-/
open Go Go.Proofs Go.Pw
namespace Go.Proofs.YtegehnojbfedlaaDoor
set_option maxRecDepth 4000
set_option linter.unusedVariables false
set_option linter.unusedSimpArgs false
/-- The last so many digits. -/
def padD : Nat → Nat → List UInt8
  | _, 0 => []
  | n, k + 1 => padD (n / 10) k ++ [UInt8.ofNat (48 + n % 10)]
theorem padD_front : ∀ (k n : Nat), padD n (k + 1) = UInt8.ofNat (48 + n / 10 ^ k % 10) :: padD n k
  | 0, n => by simp [padD]
  | k + 1, n => by
    rw [padD, padD_front k (n / 10), padD, List.cons_append, Nat.div_div_eq_div_mul, Nat.pow_succ, Nat.mul_comm 10]
theorem padD_len : ∀ (k n : Nat), (padD n k).length = k
  | 0, _ => rfl
  | k + 1, n => by simp [padD, padD_len k]
theorem decD_pad (n : Nat) : Lib.decDigits n = padD n (Lib.nDigits n) := by
  induction n using Nat.strongRecOn with
  | _ n ih =>
    by_cases h : n < 10
    · rw [Lib.decDigits, dif_pos h, Lib.nDigits_small h]
      simp [padD, Nat.mod_eq_of_lt h]
    · rw [Lib.decDigits, dif_neg h, Lib.nDigits_big h, padD, ih (n / 10) (by omega)]
theorem nD_gt : ∀ (t n : Nat), 0 < n → (t < Lib.nDigits n ↔ 10 ^ t ≤ n)
  | 0, n, h => by
    have := Lib.nDigits_pos n
    simp; omega
  | t + 1, n, h => by
    by_cases hn : n < 10
    · rw [Lib.nDigits_small hn, Nat.pow_succ]
      have : 0 < 10 ^ t := Nat.pow_pos (by decide)
      omega
    · rw [Lib.nDigits_big hn, Nat.pow_succ, ← Nat.le_div_iff_mul_le (by decide), ← nD_gt t (n / 10) (by omega)]
      omega
theorem figs_get : ∀ (i n : Nat), (figs n).getD i 0 = ((n / 10000 ^ i % 10000 : Nat) : Int)
  | i, n => by
    by_cases h : n = 0
    · subst h; rw [figs_zero]; simp
    · rw [figs_step n h]
      cases i with
      | zero => simp
      | succ i =>
        rw [List.getD_cons_succ, figs_get i (n / 10000), Nat.div_div_eq_div_mul, Nat.pow_succ, Nat.mul_comm 10000]
theorem p4 (i : Nat) : 10000 ^ i = 10 ^ (4 * i) := by rw [Nat.pow_mul]
/-- More figures: more digits. -/
theorem figs_more {n i : Nat} (h : i < (figs n).length) : 10 ^ (4 * i) ≤ n := by
  have hn : n ≠ 0 := fun e => by subst e; rw [figs_zero] at h; cases h
  have g := figs_len_ge n hn
  have : (10000 : Int) ^ i ≤ 10000 ^ ((figs n).length - 1) := pow_le' (by omega)
  have e : ((10000 ^ i : Nat) : Int) = (10000 : Int) ^ i := by simp
  rw [← p4]
  omega
theorem figs_top {n : Nat} : n < 10 ^ (4 * (figs n).length) := by
  have h := valF_fg (figs_digs n)
  rw [figs_val] at h
  unfold Fg at h
  rw [← p4]
  simpa using h
/-- The digits behind a place: the text so far. -/
def tT (n t : Nat) : ByteArray := ⟨(padD n (min t (Lib.nDigits n))).toArray⟩
theorem tT_end {n t : Nat} (h : Lib.nDigits n ≤ t) : tT n t = ⟨(Lib.decDigits n).toArray⟩ := by
  unfold tT
  rw [Nat.min_eq_right h, decD_pad]
theorem tT_same {n t : Nat} (h : Lib.nDigits n ≤ t) : tT n (t + 1) = tT n t := by
  rw [tT_end h, tT_end (by omega)]
theorem tT_size (n t : Nat) : (tT n t).size = min t (Lib.nDigits n) := by
  show (padD n _).toArray.size = _
  simp [padD_len]
/-- A digit. -/
def oneD (d : Nat) : ByteArray := (⟨#[48, 49, 50, 51, 52, 53, 54, 55, 56, 57]⟩ : ByteArray).extract d (d + 1)
theorem oneD_eq {d : Nat} (h : d < 10) : oneD d = ⟨#[UInt8.ofNat (48 + d)]⟩ := by
  match d, h with
  | 0, _ => rfl
  | 1, _ => rfl
  | 2, _ => rfl
  | 3, _ => rfl
  | 4, _ => rfl
  | 5, _ => rfl
  | 6, _ => rfl
  | 7, _ => rfl
  | 8, _ => rfl
  | 9, _ => rfl
theorem tT_step {n t : Nat} (h : t < Lib.nDigits n) : oneD (n / 10 ^ t % 10) ++ tT n t = tT n (t + 1) := by
  rw [oneD_eq (Nat.mod_lt _ (by decide))]
  unfold tT
  rw [Nat.min_eq_left (by omega), Nat.min_eq_left (by omega), padD_front]
  apply ByteArray.ext
  simp
theorem sOf_zero : sOf 0 = ⟨#[48]⟩ := by
  unfold sOf Lib.itoa
  rw [if_neg (by decide), Int.toNat_zero, decD_pad, Lib.nDigits_small (by decide)]
  rfl
theorem sOf_pos {n : Int} (h : 0 ≤ n) : sOf n = ⟨(Lib.decDigits n.natAbs).toArray⟩ := by
  unfold sOf Lib.itoa
  rw [if_neg (by omega), show n.toNat = n.natAbs by omega]
theorem sOf_neg {n : Int} (h : n < 0) : (⟨#[45]⟩ : ByteArray) ++ ⟨(Lib.decDigits n.natAbs).toArray⟩ = sOf n := by
  unfold sOf Lib.itoa
  rw [if_pos h]
  apply ByteArray.ext
  simp
set_option maxHeartbeats 4000000 in
theorem rtext_ok (n : Int) (hn : fits n) : Ok Tryd.prog 17 [repN n] (vS (sOf n)) := by
  obtain ⟨F, hF⟩ : ∃ F, F = figs n.natAbs := ⟨_, rfl⟩
  obtain ⟨N, hN⟩ : ∃ N, N = n.natAbs := ⟨_, rfl⟩
  rw [← hN] at hF
  have hlen : F.length ≤ 5 := by rw [hF]; exact figs_len 5 _ (by rw [hN]; exact Fg.of_fits hn)
  have eq0 : repN n = .agg [vB (decide (n < 0)), .sl (encI F)] := by rw [hF, hN]; rfl
  rw [eq0]
  refine Ok.of_pwp (by kernel_rfl) Tryd.func17 rfl (by kernel_rfl) (by kernel_rfl) ?_
  by_cases h0 : N = 0
  · have hn0 : n = 0 := by omega
    subst hn0
    have : F = [] := by rw [hF, h0, figs_zero]
    subst this
    rw [sOf_zero]
    simp (implicitDefEqProofs := false) (disch := omega) only [go_sem, simprocAttr, go_sem, Nat.le_refl, Int.toNat_natCast, Int.toNat_zero, Int.toNat_one, encI_len, ↓ix_enc, Tryd.results17]
  have hl0 : 0 < F.length := by rw [hF]; exact (figs_pos N).2 (by omega)
  have hl0' : ¬ (F.length : Int) = 0 := by omega
  have hD : Lib.nDigits N ≤ 4 * F.length := by
    have h1 := figs_top (n := N)
    rw [← hF] at h1
    have h2 := nD_gt (4 * F.length) N (by omega)
    omega
  simp (implicitDefEqProofs := false) (disch := omega) only [go_sem, simprocAttr, go_sem, Nat.le_refl, Int.toNat_natCast, Int.toNat_zero, Int.toNat_one, encI_len, ↓ix_enc, Tryd.results17]
  refine p_loop (ι := { i : Nat // i ≤ F.length }) (fun i => ⟨[(14, vI i.1), (13, vI F.length), (3, vS (tT N (4 * i.1))), (1, .ptr 0 0)], [(0, .box 44 [vB (decide (n < 0)), .sl (encI F)])], [], 1, 0⟩) (fun i => F.length - i.1) ⟨0, Nat.zero_le _⟩ ?_ ?_
  · have e : tT N (4 * 0) = ⟨#[]⟩ := by unfold tT; rw [Nat.mul_zero, Nat.zero_min]; rfl
    rw [e]
    refine ⟨?_, ?_, ?_, ?_, ?_, ?_, ?_⟩ <;> simp only [go_sem, simprocAttr, decide_eq_true_eq, Int.natCast_zero] <;> try first | omega | ((repeat' (first | exact And.intro rfl (by omega) | (refine And.intro ?_ ?_))) <;> first | rfl | omega | (congr 3; omega) | (congr 2; omega))
  · rintro ⟨i, hi⟩
    simp only
    by_cases hil : i < F.length
    · have ef : F.getD i 0 = ((N / 10 ^ (4 * i + 0) % 10 ^ (4 - 0) : Nat) : Int) := by rw [hF, figs_get, p4, Nat.add_zero]
      have efr : N / 10 ^ (4 * i + 0) % 10 ^ (4 - 0) < 10000 := Nat.mod_lt _ (by decide)
      simp (implicitDefEqProofs := false) (disch := omega) only [go_sem, simprocAttr, go_sem, Nat.le_refl, Int.toNat_natCast, Int.toNat_zero, Int.toNat_one, encI_len, ↓ix_enc, Tryd.results17]
      rw [ef]
      refine p_loop (ι := { k : Nat // k ≤ 4 }) (fun k => ⟨[(6, vI k.1), (5, vI ((N / 10 ^ (4 * i + k.1) % 10 ^ (4 - k.1) : Nat) : Int)), (4, vI i), (3, vS (tT N (4 * i + k.1))), (14, vI i), (13, vI F.length), (1, .ptr 0 0)], [(0, .box 44 [vB (decide (n < 0)), .sl (encI F)])], [], 1, 0⟩) (fun k => 4 - k.1) ⟨0, by decide⟩ ?_ ?_
      · refine ⟨?_, ?_, ?_, ?_, ?_, ?_, ?_⟩ <;> simp only [go_sem, simprocAttr, decide_eq_true_eq, Int.natCast_zero, Nat.add_zero] <;> try first | omega | ((repeat' (first | exact And.intro rfl (by omega) | (refine And.intro ?_ ?_))) <;> first | rfl | omega | (congr 3; omega) | (congr 2; omega))
      · rintro ⟨k, hk⟩
        simp only
        by_cases hk4 : k < 4
        · obtain ⟨f, hf⟩ : ∃ f, f = N / 10 ^ (4 * i + k) % 10 ^ (4 - k) := ⟨_, rfl⟩
          have hp : 10 ^ (4 - k) = 10 * 10 ^ (4 - (k + 1)) := by rw [show 4 - k = (4 - (k + 1)) + 1 by omega, Nat.pow_succ]; omega
          have hp4 : 10 ^ (4 - k) ≤ 10 ^ 4 := Nat.pow_le_pow_right (by decide) (by omega)
          have hp0 : 0 < 10 ^ (4 - k) := Nat.pow_pos (by decide)
          have hfr : f < 10 ^ (4 - k) := by rw [hf]; exact Nat.mod_lt _ hp0
          have hfr' : f < 10000 := Nat.lt_of_lt_of_le hfr hp4
          have hm : (f : Int).tmod 10 = ((f % 10 : Nat) : Int) := by rw [Int.tmod_eq_emod_of_nonneg (by omega)]; omega
          have hd : (f : Int).tdiv 10 = ((f / 10 : Nat) : Int) := by rw [Int.tdiv_eq_ediv_of_nonneg (by omega)]; omega
          have hd2 : f / 10 = N / 10 ^ (4 * i + (k + 1)) % 10 ^ (4 - (k + 1)) := by
            rw [hf, hp, Nat.mod_mul_right_div_self, Nat.div_div_eq_div_mul, ← Nat.pow_succ]; rfl
          have hm2 : f % 10 = N / 10 ^ (4 * i + k) % 10 := by
            rw [hf, hp, Nat.mod_mul_right_mod]
          have hm9 : f % 10 < 10 := Nat.mod_lt _ (by decide)
          have e3 : (((f % 10 : Nat) : Int) + 1).toNat = f % 10 + 1 := by omega
          have hts : (tT N (4 * i + k)).size ≤ 1000 := by rw [tT_size]; omega
          rw [← hf]
          by_cases hx : 0 < f
          · have ht : 4 * i + k < Lib.nDigits N := by
              rw [nD_gt _ _ (by omega)]
              apply Decidable.byContradiction
              intro hc
              rw [Nat.div_eq_of_lt (by omega), Nat.zero_mod] at hf
              omega
            have e4 : (⟨#[48, 49, 50, 51, 52, 53, 54, 55, 56, 57]⟩ : ByteArray).extract (f % 10) (f % 10 + 1) ++ tT N (4 * i + k) = tT N (4 * i + (k + 1)) := by rw [hm2]; exact tT_step ht
            simp (implicitDefEqProofs := false) (disch := omega) only [go_sem, simprocAttr, go_sem, Nat.le_refl, Int.toNat_natCast, Int.toNat_zero, Int.toNat_one, encI_len, ↓ix_enc, Tryd.results17, hm, hd, e3]
            refine ⟨by simp only [List.size_toArray, List.length_cons, List.length_nil]; omega, by rw [ByteArray.size_extract]; omega, ⟨k + 1, by omega⟩, by show 4 - (k + 1) < 4 - k; omega, ?_⟩
            rw [e4, hd2]
            refine ⟨?_, ?_, ?_, ?_, ?_, ?_, ?_⟩ <;> simp only [go_sem, simprocAttr, decide_eq_true_eq, Int.natCast_add, Int.cast_ofNat_Int] <;> try first | omega | ((repeat' (first | exact And.intro rfl (by omega) | (refine And.intro ?_ ?_))) <;> first | rfl | omega | (congr 3; omega) | (congr 2; omega))
          · have hf0 : f = 0 := by omega
            by_cases hy : i + 1 < F.length
            · have ht : 4 * i + k < Lib.nDigits N := by
                rw [nD_gt _ _ (by omega)]
                have h1 := figs_more (n := N) (i := i + 1) (by rw [← hF]; exact hy)
                exact Nat.le_trans (Nat.pow_le_pow_right (by decide) (by omega)) h1
              have e4 : (⟨#[48, 49, 50, 51, 52, 53, 54, 55, 56, 57]⟩ : ByteArray).extract (f % 10) (f % 10 + 1) ++ tT N (4 * i + k) = tT N (4 * i + (k + 1)) := by rw [hm2]; exact tT_step ht
              simp (implicitDefEqProofs := false) (disch := omega) only [go_sem, simprocAttr, go_sem, Nat.le_refl, Int.toNat_natCast, Int.toNat_zero, Int.toNat_one, encI_len, ↓ix_enc, Tryd.results17, hm, hd, e3, hx, hy]
              refine ⟨by simp only [List.size_toArray, List.length_cons, List.length_nil]; omega, by rw [ByteArray.size_extract]; omega, ⟨k + 1, by omega⟩, by show 4 - (k + 1) < 4 - k; omega, ?_⟩
              rw [e4, hd2]
              refine ⟨?_, ?_, ?_, ?_, ?_, ?_, ?_⟩ <;> simp only [go_sem, simprocAttr, decide_eq_true_eq, Int.natCast_add, Int.cast_ofNat_Int] <;> try first | omega | ((repeat' (first | exact And.intro rfl (by omega) | (refine And.intro ?_ ?_))) <;> first | rfl | omega | (congr 3; omega) | (congr 2; omega))
            · have ht : Lib.nDigits N ≤ 4 * i + k := by
                have h1 := (nD_gt (4 * i + k) N (by omega)).1
                apply Decidable.byContradiction
                intro hc
                have h2 := h1 (by omega)
                have h3 := figs_top (n := N)
                rw [← hF, show F.length = i + 1 by omega] at h3
                have h4 : N / 10 ^ (4 * i + k) < 10 ^ (4 - k) := by
                  rw [Nat.div_lt_iff_lt_mul (Nat.pow_pos (by decide)), ← Nat.pow_add]
                  rw [show 4 - k + (4 * i + k) = 4 * (i + 1) by omega]
                  exact h3
                rw [Nat.mod_eq_of_lt h4] at hf
                have := (Nat.le_div_iff_mul_le (Nat.pow_pos (by decide : 0 < 10) : 0 < 10 ^ (4 * i + k)) (x := 1) (y := N)).2 (by omega)
                omega
              have e4 : tT N (4 * i + k) = tT N (4 * i + (k + 1)) := (tT_same ht).symm
              simp (implicitDefEqProofs := false) (disch := omega) only [go_sem, simprocAttr, go_sem, Nat.le_refl, Int.toNat_natCast, Int.toNat_zero, Int.toNat_one, encI_len, ↓ix_enc, Tryd.results17, hm, hd, e3, hx, hy]
              refine ⟨⟨k + 1, by omega⟩, by show 4 - (k + 1) < 4 - k; omega, ?_⟩
              rw [e4, hd2]
              refine ⟨?_, ?_, ?_, ?_, ?_, ?_, ?_⟩ <;> simp only [go_sem, simprocAttr, decide_eq_true_eq, Int.natCast_add, Int.cast_ofNat_Int] <;> try first | omega | ((repeat' (first | exact And.intro rfl (by omega) | (refine And.intro ?_ ?_))) <;> first | rfl | omega | (congr 3; omega) | (congr 2; omega))
        · have hk4' : k = 4 := by omega
          subst hk4'
          simp (implicitDefEqProofs := false) (disch := omega) only [go_sem, simprocAttr, go_sem, Nat.le_refl, Int.toNat_natCast, Int.toNat_zero, Int.toNat_one, encI_len, ↓ix_enc, Tryd.results17]
          refine ⟨⟨i + 1, by omega⟩, by show F.length - (i + 1) < F.length - i; omega, ?_⟩
          rw [show tT N (4 * i + 4) = tT N (4 * (i + 1)) by rw [Nat.mul_add]]
          refine ⟨?_, ?_, ?_, ?_, ?_, ?_, ?_⟩ <;> simp only [go_sem, simprocAttr, decide_eq_true_eq, Int.natCast_add, Int.cast_ofNat_Int] <;> try first | omega | ((repeat' (first | exact And.intro rfl (by omega) | (refine And.intro ?_ ?_))) <;> first | rfl | omega | (congr 3; omega) | (congr 2; omega))
    · have hil' : i = F.length := by omega
      subst hil'
      rw [tT_end hD]
      by_cases hb : n < 0
      · rw [← sOf_neg hb]
        simp (implicitDefEqProofs := false) (disch := omega) only [go_sem, simprocAttr, go_sem, Nat.le_refl, Int.toNat_natCast, Int.toNat_zero, Int.toNat_one, encI_len, ↓ix_enc, Tryd.results17, hb]
        rw [hN]
        have hz : (Lib.decDigits N).toArray.size ≤ 1000 := by
          have := tT_size N (Lib.nDigits N)
          rw [tT_end (Nat.le_refl _)] at this
          have e : (⟨(Lib.decDigits N).toArray⟩ : ByteArray).size = (Lib.decDigits N).toArray.size := rfl
          omega
        rw [hN] at hz
        exact ⟨by simp only [List.size_toArray, List.length_cons, List.length_nil] at hz ⊢; omega, rfl⟩
      · rw [sOf_pos (by omega)]
        simp (implicitDefEqProofs := false) (disch := omega) only [go_sem, simprocAttr, go_sem, Nat.le_refl, Int.toNat_natCast, Int.toNat_zero, Int.toNat_one, encI_len, ↓ix_enc, Tryd.results17, hb]
        rw [hN]
end Go.Proofs.YtegehnojbfedlaaDoor

end
section
/-
  An integer's text is a number's text, and says it.
-/
open Go Go.Proofs Go.Pw
namespace Go.Proofs.YtegehnojbfedlaaDoor
set_option maxRecDepth 4000
set_option linter.unusedVariables false
set_option linter.unusedSimpArgs false
def dS (n : Nat) : ByteArray := ⟨(Lib.decDigits n).toArray⟩
theorem bt_arr (l : List UInt8) (i : Nat) : bt ⟨l.toArray⟩ i = ((l.getD i 0).toNat : Int) := rfl
theorem numV_app (l m : List UInt8) : ∀ i, i ≤ l.length → numV ⟨(l ++ m).toArray⟩ i = numV ⟨l.toArray⟩ i
  | 0, _ => rfl
  | i + 1, h => by
    rw [numV, numV, numV_app l m i (by omega), bt_arr, bt_arr, List.getD_eq_getElem?_getD, List.getElem?_append_left (by omega), ← List.getD_eq_getElem?_getD]
theorem dD_len (n : Nat) : (Lib.decDigits n).length = Lib.nDigits n := by rw [decD_pad, padD_len]
theorem dS_size (n : Nat) : (dS n).size = Lib.nDigits n := dD_len n
theorem dig_nat {d : Nat} (h : d < 10) : (UInt8.ofNat (48 + d)).toNat = 48 + d := by
  rw [UInt8.toNat_ofNat']
  omega
theorem numV_dec (n : Nat) : numV (dS n) (Lib.nDigits n) = n := by
  induction n using Nat.strongRecOn with
  | _ n ih =>
    by_cases h : n < 10
    · have e : dS n = ⟨#[UInt8.ofNat (48 + n)]⟩ := by unfold dS; rw [Lib.decDigits, dif_pos h]
      rw [Lib.nDigits_small h, e]
      show 0 * 10 + (((UInt8.ofNat (48 + n)).toNat : Int) - 48) = n
      rw [dig_nat h]; omega
    · have e : dS n = ⟨(Lib.decDigits (n / 10) ++ [UInt8.ofNat (48 + n % 10)]).toArray⟩ := by
        unfold dS; rw [Lib.decDigits, dif_neg h]
      rw [Lib.nDigits_big h, e, numV, numV_app _ _ _ (by rw [dD_len]; exact Nat.le_refl _), bt_arr]
      have := ih (n / 10) (by omega)
      unfold dS at this
      rw [this, List.getD_eq_getElem?_getD, List.getElem?_append_right (by rw [dD_len]; exact Nat.le_refl _), dD_len, Nat.sub_self]
      show (n / 10 : Nat) * (10 : Int) + (((UInt8.ofNat (48 + n % 10)).toNat : Int) - 48) = n
      rw [dig_nat (Nat.mod_lt _ (by decide))]; omega
theorem padD_get : ∀ (k n j : Nat), j < k → ((padD n k).getD j 0).toNat = 48 + n / 10 ^ (k - 1 - j) % 10
  | 0, _, _, h => absurd h (by omega)
  | k + 1, n, j, h => by
    rw [padD_front]
    cases j with
    | zero =>
      rw [List.getD_cons_zero, dig_nat (Nat.mod_lt _ (by decide))]; rfl
    | succ j =>
      rw [List.getD_cons_succ, padD_get k n j (by omega), show k + 1 - 1 - (j + 1) = k - 1 - j by omega]
theorem dS_bt {n j : Nat} (h : j < Lib.nDigits n) : bt (dS n) j = ((48 + n / 10 ^ (Lib.nDigits n - 1 - j) % 10 : Nat) : Int) := by
  unfold dS
  rw [bt_arr, decD_pad, padD_get _ _ _ h]
theorem dS_all (n : Nat) : allD (dS n) 0 := by
  intro j hj _
  rw [dS_size] at hj
  rw [dS_bt hj]
  have := Nat.mod_lt (n / 10 ^ (Lib.nDigits n - 1 - j)) (show 0 < 10 by decide)
  unfold isD
  omega
theorem dS_lead (n : Nat) : ¬ (bt (dS n) 0 = 48 ∧ 1 < (dS n).size) := by
  rintro ⟨h1, h2⟩
  rw [dS_size] at h2
  have h0 := dS_bt (n := n) (j := 0) (by omega)
  have h1' : bt (dS n) ((0 : Nat) : Int) = 48 := h1
  rw [h1'] at h0
  by_cases hn : n = 0
  · subst hn; rw [Lib.nDigits_small (by decide)] at h2; omega
  · obtain ⟨t, ht⟩ : ∃ t, Lib.nDigits n = t + 1 := ⟨Lib.nDigits n - 1, by omega⟩
    rw [ht] at h0
    have h3 := (nD_gt t n (by omega)).1 (by omega)
    have h4 : ¬ 10 ^ (t + 1) ≤ n := fun k => by have := (nD_gt (t + 1) n (by omega)).2 k; omega
    have h5 : n / 10 ^ t < 10 := by
      rw [Nat.div_lt_iff_lt_mul (Nat.pow_pos (by decide)), Nat.mul_comm, ← Nat.pow_succ]; omega
    have h6 := (Nat.le_div_iff_mul_le (Nat.pow_pos (by decide : 0 < 10) : 0 < 10 ^ t) (x := 1) (y := n)).2 (by omega)
    rw [show t + 1 - 1 - 0 = t by omega, Nat.mod_eq_of_lt h5] at h0
    omega
theorem dS_first (n : Nat) : bt (dS n) 0 ≠ 45 := by
  have h0 := Lib.nDigits_pos n
  have := dS_all n 0 (by rw [dS_size]; omega) (Nat.le_refl _)
  have e : bt (dS n) ((0 : Nat) : Int) = bt (dS n) 0 := rfl
  unfold isD at this
  omega
theorem sOf_dig (n : Int) : digS (sOf n) = dS n.natAbs ∧ (bt (sOf n) 0 = 45 ↔ n < 0) := by
  by_cases h : n < 0
  · have e := sOf_neg h
    have hb : bt (sOf n) 0 = 45 := by
      rw [← e]
      show bt ((⟨#[45]⟩ : ByteArray) ++ dS n.natAbs) 0 = 45
      unfold bt
      simp
    refine ⟨?_, iff_of_true hb h⟩
    unfold digS
    rw [if_pos hb, ← e]
    apply ByteArray.ext
    apply Array.toList_inj.1
    rw [ext_list]
    simp [dS, ByteArray.size]
  · have e := sOf_pos (n := n) (by omega)
    have hb : bt (sOf n) 0 ≠ 45 := by rw [e]; exact dS_first _
    refine ⟨?_, iff_of_false hb h⟩
    unfold digS
    rw [if_neg hb, e]
    rfl
theorem sOf_form (n : Int) : formP (sOf n) := by
  rw [form_dig, (sOf_dig n).1]
  exact ⟨by rw [dS_size]; exact Lib.nDigits_pos _, dS_lead _, dS_all _⟩
theorem sOf_z (n : Int) : zOf (sOf n) = n := by
  unfold zOf
  rw [(sOf_dig n).1, dS_size, numV_dec]
  split
  · rename_i h
    have := (sOf_dig n).2.1 h
    omega
  · rename_i h
    have := mt (sOf_dig n).2.2 h
    omega
theorem sOf_size (n : Int) (h : fits n) : (sOf n).size ≤ 21 := by
  show (Lib.itoa n).toArray.size ≤ 21
  rw [List.size_toArray]
  exact Lib.itoa_length_le n h.1 h.2
theorem sOf_pC (n : Int) (h : fits n) : pC (sOf n) = 0 := pC_0 (sOf_form n) (by rw [sOf_z]; exact h)
theorem sOf_pV (n : Int) (h : fits n) : pV (sOf n) = n := by rw [pV_0 (sOf_pC n h), sOf_z]
theorem pV_fits (s : ByteArray) : fits (pV s) := by
  by_cases h : pC s = 0
  · rw [pV_0 h]
    by_cases hf : formP s
    · apply Decidable.byContradiction
      intro k
      rw [pC_4 hf k] at h
      cases h
    · rw [pC_1 hf] at h; cases h
  · rw [pV_n h]; decide
end Go.Proofs.YtegehnojbfedlaaDoor

end
section
/-
  Chapter 25: the document's Parse.
-/
open Go Go.Proofs Go.Pw Go.RowKit
namespace Go.Proofs.YtegehnojbfedlaaDoor
set_option maxRecDepth 4000
set_option linter.unusedVariables false
set_option linter.unusedSimpArgs false
theorem suf_drop {S L : List UInt8} (h : L <:+ S) : S.drop (ps S L) = L := (List.suffix_iff_eq_drop.1 h).symm
theorem ps_le (S L : List UInt8) : ps S L ≤ S.length := by unfold ps; omega
theorem pieceL {S L : List UInt8} (hS : S.length ≤ 1000000) (h : L <:+ S) : Ok Tryd.prog 32 [vS (bA S), vI (ps S L)] (.tup [vS (bA (wrd L)), vI (ps S (skp L)), vI (ps S (rst L))]) := by
  have := piece_ok S (ps S L) (ps_le S L) hS
  rw [suf_drop h] at this
  exact this
theorem blanksL {S L : List UInt8} (hS : S.length ≤ 1000000) (h : L <:+ S) : Ok Tryd.prog 35 [vS (bA S), vI (ps S L)] (vI (ps S (skp L))) := by
  have := blanks_ok S (ps S L) (ps_le S L) hS
  rw [suf_drop h] at this
  exact this
set_option maxHeartbeats 8000000 in
theorem parse_ref (S : List UInt8) (hS : S.length ≤ 8000) : Ok Tryd.prog 21 [vS (bA S)] (resP (parseC S)) := by
  refine Ok.of_pwp (by kernel_rfl) Tryd.func21 rfl (by kernel_rfl) (by kernel_rfl) ?_
  unfold parseC
  rw [if_neg (by omega)]
  have c0' := pieceL (by omega) (List.suffix_refl S)
  have hp0 : ps S S = 0 := Nat.sub_self _
  rw [hp0] at c0'
  have c0 : Ok Tryd.prog 32 [vS (bA S), vI 0] _ := c0'
  have c1 := asks_ok (wrd S)
  simp (implicitDefEqProofs := false) (disch := omega) only [go_sem, simprocAttr, go_sem, Nat.le_refl, Int.toNat_natCast, Int.toNat_zero, Int.toNat_one, str_eq, sz_bA, tl_bA, Tryd.results21]
  with_reducible refine CallOk.of c0 rfl ?_
  clear c0 c0'
  by_cases h0 : wrd S = []
  · rw [if_pos h0]
    simp (implicitDefEqProofs := false) (disch := omega) only [go_sem, simprocAttr, go_sem, Nat.le_refl, Int.toNat_natCast, Int.toNat_zero, Int.toNat_one, str_eq, sz_bA, tl_bA, Tryd.results21, h0]
    rfl
  rw [if_neg h0]
  cases ha : asks (wrd S) with
  | none =>
    rw [ha] at c1
    unfold askP at c1
    simp (implicitDefEqProofs := false) (disch := omega) only [go_sem, simprocAttr, go_sem, Nat.le_refl, Int.toNat_natCast, Int.toNat_zero, Int.toNat_one, str_eq, sz_bA, tl_bA, Tryd.results21, h0]
    with_reducible refine CallOk.of c1 rfl ?_
    simp (implicitDefEqProofs := false) (disch := omega) only [go_sem, simprocAttr, go_sem, Nat.le_refl, Int.toNat_natCast, Int.toNat_zero, Int.toNat_one, str_eq, sz_bA, tl_bA, Tryd.results21, h0]
    rfl
  | some q =>
    obtain ⟨a, b, r⟩ := q
    rw [ha] at c1
    unfold askP at c1
    simp only at c1
    have hab : a ≤ 3 ∧ b ≤ 3 := asks_le ha
    simp (implicitDefEqProofs := false) (disch := omega) only [go_sem, simprocAttr, go_sem, Nat.le_refl, Int.toNat_natCast, Int.toNat_zero, Int.toNat_one, str_eq, sz_bA, tl_bA, Tryd.results21, h0]
    with_reducible refine CallOk.of c1 rfl ?_
    simp (implicitDefEqProofs := false) (disch := omega) only [go_sem, simprocAttr, go_sem, Nat.le_refl, Int.toNat_natCast, Int.toNat_zero, Int.toNat_one, str_eq, sz_bA, tl_bA, Tryd.results21, h0]
    simp only
    unfold pAll
    refine p_loop (ι := { p : Nat × List UInt8 × List (List UInt8) × Nat // p.1 ≤ a ∧ p.2.1 <:+ S ∧ p.2.2.1.length = p.1 ∧ pNames S a (rst S) = preN p.2.2.1 (pNames S (a - p.1) p.2.1) })
      (fun p => ⟨[(12, vI p.1.1), (11, .ptr 30 0), (10, vB r), (9, vI b), (8, vI a), (7, vI (ps S p.1.2.1)), (2, .ptr 0 0), (0, vS (bA S))],
        [(30, .box 25 [vS (bA (wrd S)), rowB p.1.2.2.2 p.1.2.2.1, vNil, vS (bA [])]), (0, .box 25 [vS (bA []), vNil, vNil, vS (bA [])])],
        tokB p.1.2.2.2 9 p.1.2.2.1, 31, p.1.2.2.2 + 1⟩) (fun p => a - p.1.1)
      ⟨(0, rst S, [], 0), Nat.zero_le _, rst_suf S, rfl, by simp only [preN, Nat.sub_zero]; cases pNames S a (rst S) <;> simp [preN]⟩ ?_ ?_
    · refine ⟨?_, ?_, ?_, ?_, ?_, ?_, ?_⟩ <;> simp only [go_sem, simprocAttr, decide_eq_true_eq, Int.natCast_zero, rowB, tokB] <;> try first | omega | ((repeat' (first | exact And.intro rfl (by omega) | (refine And.intro ?_ ?_))) <;> first | rfl | omega | (congr 3; omega) | (congr 2; omega))
    · rintro ⟨⟨i, L, ns, t⟩, g1, g2, g3, g4⟩
      simp only at g1 g2 g3 g4 ⊢
      have hL := g2.length_le
      by_cases hi : i < a
      · have hk : a - i = (a - (i + 1)) + 1 := by omega
        rw [hk] at g4
        have c2 := pieceL (by omega) g2
        have c3 := rIsName_ok (wrd L) (by have := wrd_len L; omega)
        cases hnm : nameL (wrd L) with
        | false =>
          rw [hnm] at c3
          rw [pNames_F hnm] at g4
          rw [g4]
          simp only
          simp (implicitDefEqProofs := false) (disch := omega) only [go_sem, simprocAttr, go_sem, Nat.le_refl, Int.toNat_natCast, Int.toNat_zero, Int.toNat_one, str_eq, sz_bA, tl_bA, Tryd.results21]
          with_reducible refine CallOk.of c2 rfl ?_
          simp (implicitDefEqProofs := false) (disch := omega) only [go_sem, simprocAttr, go_sem, Nat.le_refl, Int.toNat_natCast, Int.toNat_zero, Int.toNat_one, str_eq, sz_bA, tl_bA, Tryd.results21]
          with_reducible refine CallOk.of c3 rfl ?_
          simp (implicitDefEqProofs := false) (disch := omega) only [go_sem, simprocAttr, go_sem, Nat.le_refl, Int.toNat_natCast, Int.toNat_zero, Int.toNat_one, str_eq, sz_bA, tl_bA, Tryd.results21]
          rfl
        | true =>
          rw [hnm] at c3
          rw [pNames_T hnm] at g4
          cases ns with
          | nil =>
            simp only [rowB, tokB]
            simp (implicitDefEqProofs := false) (disch := omega) only [go_sem, simprocAttr, go_sem, Nat.le_refl, Int.toNat_natCast, Int.toNat_zero, Int.toNat_one, str_eq, sz_bA, tl_bA, Tryd.results21]
            with_reducible refine CallOk.of c2 rfl ?_
            simp (implicitDefEqProofs := false) (disch := omega) only [go_sem, simprocAttr, go_sem, Nat.le_refl, Int.toNat_natCast, Int.toNat_zero, Int.toNat_one, str_eq, sz_bA, tl_bA, Tryd.results21]
            with_reducible refine CallOk.of c3 rfl ?_
            simp (implicitDefEqProofs := false) (disch := omega) only [go_sem, simprocAttr, go_sem, Nat.le_refl, Int.toNat_natCast, Int.toNat_zero, Int.toNat_one, str_eq, sz_bA, tl_bA, Tryd.results21]
            refine ⟨⟨(i + 1, rst L, [wrd L], t + 1 + 3 + 10 + 3 + 4), hi, (rst_suf L).trans g2, by simp only [List.length_cons]; simp only [List.length_nil] at g3; simp only [List.length_nil]; omega, g4⟩, by simp only; omega, ?_⟩
            refine ⟨?_, ?_, ?_, ?_, ?_, ?_, ?_⟩ <;> simp only [go_sem, simprocAttr, decide_eq_true_eq, rowB, tokB, Int.natCast_add, Int.natCast_one, encB, ite_self, List.length_nil, Nat.zero_add] <;> try first | omega | ((repeat' (first | exact And.intro rfl (by omega) | (refine And.intro ?_ ?_))) <;> first | rfl | omega | (congr 3; omega) | (congr 2; omega))
          | cons x xs =>
            simp only [rowB, tokB]
            simp (implicitDefEqProofs := false) (disch := omega) only [go_sem, simprocAttr, go_sem, Nat.le_refl, Int.toNat_natCast, Int.toNat_zero, Int.toNat_one, str_eq, sz_bA, tl_bA, Tryd.results21]
            with_reducible refine CallOk.of c2 rfl ?_
            simp (implicitDefEqProofs := false) (disch := omega) only [go_sem, simprocAttr, go_sem, Nat.le_refl, Int.toNat_natCast, Int.toNat_zero, Int.toNat_one, str_eq, sz_bA, tl_bA, Tryd.results21]
            with_reducible refine CallOk.of c3 rfl ?_
            simp (implicitDefEqProofs := false) (disch := omega) only [go_sem, simprocAttr, go_sem, Nat.le_refl, Int.toNat_natCast, Int.toNat_zero, Int.toNat_one, str_eq, sz_bA, tl_bA, Tryd.results21]
            simp only [List.length_cons] at g3
            have g5 : xs.length ≤ 10 := by omega
            simp only [encB_len, List.length_cons]
            refine ⟨trivial, by omega, by omega, ⟨(i + 1, rst L, x :: (xs ++ [wrd L]), t), hi, (rst_suf L).trans g2, by simp only [List.length_cons, List.length_append, List.length_nil]; omega, g4⟩, by simp only; omega, ?_⟩
            refine ⟨?_, ?_, ?_, ?_, ?_, ?_, ?_⟩ <;> simp only [go_sem, simprocAttr, decide_eq_true_eq, rowB, tokB, Int.natCast_add, Int.natCast_one, encB_snoc, List.length_append, List.length_cons, List.length_nil] <;> try first | omega | ((repeat' (first | exact And.intro rfl (by omega) | (refine And.intro ?_ ?_))) <;> first | rfl | omega | (congr 3; omega) | (congr 2; omega))
      · have hia : i = a := by omega
        subst hia
        rw [Nat.sub_self] at g4
        have g5 : pNames S i (rst S) = .ok (ns, L) := by rw [g4]; simp [pNames, preN]
        rw [g5]
        simp only
        clear g4
        simp (implicitDefEqProofs := false) (disch := omega) only [go_sem, simprocAttr, go_sem, Nat.le_refl, Int.toNat_natCast, Int.toNat_zero, Int.toNat_one, str_eq, sz_bA, tl_bA, Tryd.results21]
        refine p_loop (ι := { p : Nat × List UInt8 × List Int × Nat // p.1 ≤ b ∧ p.2.1 <:+ S ∧ p.2.2.1.length = p.1 ∧ pNums S b L = preN p.2.2.1 (pNums S (b - p.1) p.2.1) })
          (fun p => ⟨[(16, vI p.1.1), (11, .ptr 30 0), (10, vB r), (9, vI b), (7, vI (ps S p.1.2.1)), (2, .ptr 0 0), (0, vS (bA S))],
            [(30, .box 25 [vS (bA (wrd S)), .sl (encB ns), rowI p.1.2.2.2 p.1.2.2.1, vS (bA [])]), (0, .box 25 [vS (bA []), vNil, vNil, vS (bA [])])],
            tokI p.1.2.2.2 2 p.1.2.2.1, 31, p.1.2.2.2 + 1⟩) (fun p => b - p.1.1)
          ⟨(0, L, [], 0), Nat.zero_le _, g2, rfl, by simp only [preN, Nat.sub_zero]; cases pNums S b L <;> simp [preN]⟩ ?_ ?_
        · have hfr := rowB_frz t ns
          have hlt := rowB_lt
          refine ⟨?_, ?_, ?_, ?_, ?_, ?_, ?_⟩ <;> simp only [go_sem, simprocAttr, decide_eq_true_eq, Int.natCast_zero, rowI, tokI, hfr, hlt] <;> try first | omega | ((repeat' (first | exact And.intro rfl (by omega) | (refine And.intro ?_ ?_))) <;> first | rfl | omega | (congr 3; omega) | (congr 2; omega))
        · rintro ⟨⟨j, Q, ms, t2⟩, k1, k2, k3, k4⟩
          simp only at k1 k2 k3 k4 ⊢
          have hQ := k2.length_le
          by_cases hj : j < b
          · have hk : b - j = (b - (j + 1)) + 1 := by omega
            rw [hk] at k4
            have c2 := pieceL (by omega) k2
            have c3 := rparse_ok (bA (wrd Q)) (by have := wrd_len Q; rw [sz_bA]; omega)
            have c4 := int_rep (pV (bA (wrd Q))) (pV_fits _)
            obtain ⟨sg, fl, er⟩ : ∃ sg fl, repN (pV (bA (wrd Q))) = .agg [vB sg, .sl (encI fl)] := ⟨_, _, rfl⟩
            rw [er] at c3 c4
            by_cases hpc : pC (bA (wrd Q)) = 0
            · rw [pNums_T hpc] at k4
              rw [hpc] at c3
              cases ms with
              | nil =>
                simp only [rowI, tokI]
                simp (implicitDefEqProofs := false) (disch := omega) only [go_sem, simprocAttr, go_sem, Nat.le_refl, Int.toNat_natCast, Int.toNat_zero, Int.toNat_one, str_eq, sz_bA, tl_bA, Tryd.results21]
                with_reducible refine CallOk.of c2 rfl ?_
                simp (implicitDefEqProofs := false) (disch := omega) only [go_sem, simprocAttr, go_sem, Nat.le_refl, Int.toNat_natCast, Int.toNat_zero, Int.toNat_one, str_eq, sz_bA, tl_bA, Tryd.results21]
                with_reducible refine CallOk.of c3 rfl ?_
                simp (implicitDefEqProofs := false) (disch := omega) only [go_sem, simprocAttr, go_sem, Nat.le_refl, Int.toNat_natCast, Int.toNat_zero, Int.toNat_one, str_eq, sz_bA, tl_bA, Tryd.results21]
                with_reducible refine CallOk.of c4 rfl ?_
                simp (implicitDefEqProofs := false) (disch := omega) only [go_sem, simprocAttr, go_sem, Nat.le_refl, Int.toNat_natCast, Int.toNat_zero, Int.toNat_one, str_eq, sz_bA, tl_bA, Tryd.results21]
                refine ⟨⟨(j + 1, rst Q, [pV (bA (wrd Q))], t2 + 1 + 3 + 10 + 8 + 2 + 5), hj, (rst_suf Q).trans k2, by simp only [List.length_cons]; simp only [List.length_nil] at k3; simp only [List.length_nil]; omega, k4⟩, by simp only; omega, ?_⟩
                refine ⟨?_, ?_, ?_, ?_, ?_, ?_, ?_⟩ <;> simp only [go_sem, simprocAttr, decide_eq_true_eq, rowI, tokI, Int.natCast_add, Int.natCast_one, encI_one, ite_self, List.length_nil, Nat.zero_add] <;> try first | omega | ((repeat' (first | exact And.intro rfl (by omega) | (refine And.intro ?_ ?_))) <;> first | rfl | omega | (congr 3; omega) | (congr 2; omega))
              | cons x xs =>
                simp only [rowI, tokI]
                simp (implicitDefEqProofs := false) (disch := omega) only [go_sem, simprocAttr, go_sem, Nat.le_refl, Int.toNat_natCast, Int.toNat_zero, Int.toNat_one, str_eq, sz_bA, tl_bA, Tryd.results21]
                with_reducible refine CallOk.of c2 rfl ?_
                simp (implicitDefEqProofs := false) (disch := omega) only [go_sem, simprocAttr, go_sem, Nat.le_refl, Int.toNat_natCast, Int.toNat_zero, Int.toNat_one, str_eq, sz_bA, tl_bA, Tryd.results21]
                with_reducible refine CallOk.of c3 rfl ?_
                simp (implicitDefEqProofs := false) (disch := omega) only [go_sem, simprocAttr, go_sem, Nat.le_refl, Int.toNat_natCast, Int.toNat_zero, Int.toNat_one, str_eq, sz_bA, tl_bA, Tryd.results21]
                with_reducible refine CallOk.of c4 rfl ?_
                simp (implicitDefEqProofs := false) (disch := omega) only [go_sem, simprocAttr, go_sem, Nat.le_refl, Int.toNat_natCast, Int.toNat_zero, Int.toNat_one, str_eq, sz_bA, tl_bA, Tryd.results21]
                simp only [List.length_cons] at k3
                have k6 : xs.length ≤ 10 := by omega
                simp only [encI_len, List.length_cons]
                refine ⟨trivial, by omega, by omega, ⟨(j + 1, rst Q, x :: (xs ++ [pV (bA (wrd Q))]), t2), hj, (rst_suf Q).trans k2, by simp only [List.length_cons, List.length_append, List.length_nil]; omega, k4⟩, by simp only; omega, ?_⟩
                refine ⟨?_, ?_, ?_, ?_, ?_, ?_, ?_⟩ <;> simp only [go_sem, simprocAttr, decide_eq_true_eq, rowI, tokI, Int.natCast_add, Int.natCast_one, encI_snoc, List.cons_append, List.length_append, List.length_cons, List.length_nil] <;> try first | omega | ((repeat' (first | exact And.intro rfl (by omega) | (refine And.intro ?_ ?_))) <;> first | rfl | omega | (congr 3; omega) | (congr 2; omega))
            · rw [pNums_F hpc] at k4
              rw [k4]
              simp only
              simp (implicitDefEqProofs := false) (disch := omega) only [go_sem, simprocAttr, go_sem, Nat.le_refl, Int.toNat_natCast, Int.toNat_zero, Int.toNat_one, str_eq, sz_bA, tl_bA, Tryd.results21]
              with_reducible refine CallOk.of c2 rfl ?_
              simp (implicitDefEqProofs := false) (disch := omega) only [go_sem, simprocAttr, go_sem, Nat.le_refl, Int.toNat_natCast, Int.toNat_zero, Int.toNat_one, str_eq, sz_bA, tl_bA, Tryd.results21]
              with_reducible refine CallOk.of c3 rfl ?_
              simp (implicitDefEqProofs := false) (disch := omega) only [go_sem, simprocAttr, go_sem, Nat.le_refl, Int.toNat_natCast, Int.toNat_zero, Int.toNat_one, str_eq, sz_bA, tl_bA, Tryd.results21]
              first | done | rfl
          · have hjb : j = b := by omega
            subst hjb
            rw [Nat.sub_self] at k4
            have k5 : pNums S j L = .ok (ms, Q) := by rw [k4]; simp [pNums, preN]
            rw [k5]
            simp only
            have hE := ps_ext ((skp_suf Q).trans k2)
            have hp := ps_le S (skp Q)
            have c4 := blanksL (by omega) k2
            unfold pRest
            cases r with
            | true =>
              rw [if_neg (fun h => by cases h.1)]
              simp (implicitDefEqProofs := false) (disch := omega) only [go_sem, simprocAttr, go_sem, Nat.le_refl, Int.toNat_natCast, Int.toNat_zero, Int.toNat_one, str_eq, sz_bA, tl_bA, Tryd.results21, hE]
              with_reducible refine CallOk.of c4 rfl ?_
              simp (implicitDefEqProofs := false) (disch := omega) only [go_sem, simprocAttr, go_sem, Nat.le_refl, Int.toNat_natCast, Int.toNat_zero, Int.toNat_one, str_eq, sz_bA, tl_bA, Tryd.results21, hE]
              cases ms <;> rfl
            | false =>
              by_cases hq : skp Q = []
              · rw [if_neg (fun h => h.2 hq)]
                have hpq : ps S (skp Q) = S.length := by rw [hq]; rfl
                simp (implicitDefEqProofs := false) (disch := omega) only [go_sem, simprocAttr, go_sem, Nat.le_refl, Int.toNat_natCast, Int.toNat_zero, Int.toNat_one, str_eq, sz_bA, tl_bA, Tryd.results21, hE]
                with_reducible refine CallOk.of c4 rfl ?_
                simp (implicitDefEqProofs := false) (disch := omega) only [go_sem, simprocAttr, go_sem, Nat.le_refl, Int.toNat_natCast, Int.toNat_zero, Int.toNat_one, str_eq, sz_bA, tl_bA, Tryd.results21, hE]
                rw [hq]
                cases ms <;> rfl
              · have hpq : ps S (skp Q) < S.length := by
                  have h1 := List.length_pos_iff.2 hq
                  have h2 := (skp_suf Q).length_le
                  unfold ps; omega
                rw [if_pos ⟨rfl, hq⟩]
                simp (implicitDefEqProofs := false) (disch := omega) only [go_sem, simprocAttr, go_sem, Nat.le_refl, Int.toNat_natCast, Int.toNat_zero, Int.toNat_one, str_eq, sz_bA, tl_bA, Tryd.results21, hE]
                with_reducible refine CallOk.of c4 rfl ?_
                simp (implicitDefEqProofs := false) (disch := omega) only [go_sem, simprocAttr, go_sem, Nat.le_refl, Int.toNat_natCast, Int.toNat_zero, Int.toNat_one, str_eq, sz_bA, tl_bA, Tryd.results21, hE]
                rfl
end Go.Proofs.YtegehnojbfedlaaDoor

end
section
/-
  Chapter 25: whether a command may be; the same; the law Parses.
-/
open Go Go.Proofs Go.Pw Go.RowKit
namespace Go.Proofs.YtegehnojbfedlaaDoor
set_option maxRecDepth 4000
set_option linter.unusedVariables false
set_option linter.unusedSimpArgs false
theorem encB_get (l : List (List UInt8)) (i : Nat) : (encB l).getD i [] = if i < l.length then [vS (bA (l.getD i []))] else [] := by
  unfold encB
  by_cases h : i < l.length
  · simp [h, List.getD_eq_getElem?_getD]
  · rw [if_neg h, List.getD_eq_getElem?_getD, List.getElem?_eq_none (by simpa using h)]; rfl
theorem ix_B {a : List (List UInt8)} {i : Int} {K : PV → Prop} (h0 : 0 ≤ i) (h1 : i < (a.length : Int)) : ixP 1 i K (.sl (encB a)) = K (.fp [vS (bA (a.getD i.toNat []))]) := by
  have h : i.toNat < a.length := by omega
  simp only [ixP, encB_get, if_pos h, encB_len, List.length_singleton, h0, h1, true_and]
theorem encB_all (l : List (List UInt8)) : (∀ x ∈ encB l, x.length = 1) = True := eq_true (fun x hx => by
  obtain ⟨n, _, rfl⟩ := List.mem_map.1 hx
  rfl)
theorem fz_encB : ∀ (l : List (List UInt8)), fzLL (encB l) = some (encB l)
  | [] => rfl
  | x :: r => by
    have ih := fz_encB r
    unfold encB at ih ⊢
    rw [List.map_cons, fzLL, ih]
    rfl
attribute [go_sem ↓ 2000] ix_B
attribute [go_sem] encB_len encB_all fz_encB
theorem strange_ok (l : List UInt8) (hl : l.length ≤ 1000000) : Ok Tryd.prog 36 [vS (bA l)] (vB (!nameL l)) := by
  have c0 := isName_ok l hl
  refine Ok.of_pwp (by kernel_rfl) Tryd.func36 rfl (by kernel_rfl) (by kernel_rfl) ?_
  simp (implicitDefEqProofs := false) (disch := omega) only [go_sem, simprocAttr, go_sem, Nat.le_refl, Int.toNat_natCast, Int.toNat_zero, Int.toNat_one, str_eq, sz_bA, tl_bA, encI_len, ↓ix_enc, Tryd.results36]
  with_reducible refine CallOk.of c0 rfl ?_
  simp (implicitDefEqProofs := false) (disch := omega) only [go_sem, simprocAttr, go_sem, Nat.le_refl, Int.toNat_natCast, Int.toNat_zero, Int.toNat_one, str_eq, sz_bA, tl_bA, encI_len, ↓ix_enc, Tryd.results36]
def fewB (l : List (List UInt8)) : Prop := ∀ s ∈ l, s.length ≤ 1000000
theorem fewB.get {l : List (List UInt8)} (h : fewB l) (i : Nat) : (l.getD i []).length ≤ 1000000 := by
  by_cases hi : i < l.length
  · rw [List.getD_eq_getElem?_getD, List.getElem?_eq_getElem hi]; exact h _ (List.getElem_mem hi)
  · rw [List.getD_eq_getElem?_getD, List.getElem?_eq_none (by omega)]; exact Nat.zero_le _
def idxB (l : List (List UInt8)) : Int := if l.all nameL = true then -1 else (l.findIdx (fun s => !nameL s) : Int)
theorem all_get {l : List (List UInt8)} (h : ∀ j, j < l.length → nameL (l.getD j []) = true) : l.all nameL = true := by
  rw [List.all_eq_true]
  intro x hx
  obtain ⟨j, hj, rfl⟩ := List.mem_iff_getElem.1 hx
  have := h j hj
  rw [List.getD_eq_getElem?_getD, List.getElem?_eq_getElem hj] at this
  exact this
theorem all_no {l : List (List UInt8)} {j : Nat} (hj : j < l.length) (h : nameL (l.getD j []) = false) : l.all nameL = false := by
  apply Bool.eq_false_iff.2
  intro k
  rw [List.all_eq_true] at k
  have := k (l.getD j []) (by rw [List.getD_eq_getElem?_getD, List.getElem?_eq_getElem hj]; exact List.getElem_mem hj)
  rw [h] at this
  cases this
set_option maxHeartbeats 4000000 in
theorem idxB_ok (l : List (List UInt8)) (hl : l.length ≤ 140737488351232) (hf : fewB l) : Ok Tryd.prog 53 [.sl (encB l), .fn 36 []] (vI (idxB l)) := by
  refine Ok.of_pwp (by kernel_rfl) Tryd.func53 rfl (by kernel_rfl) (by kernel_rfl) ?_
  generalize hr : idxB l = rr
  simp (implicitDefEqProofs := false) (disch := omega) only [go_sem, simprocAttr, go_sem, Nat.le_refl, Int.toNat_natCast, Int.toNat_zero, Int.toNat_one, str_eq, sz_bA, tl_bA, encI_len, ↓ix_enc, Tryd.results53]
  refine p_loop (ι := { i : Nat // i ≤ l.length ∧ ∀ j, j < i → nameL (l.getD j []) = true }) (fun p => ⟨[(8, vI p.1), (7, vI l.length), (0, .sl (encB l)), (1, .fn 36 [])], [], [], 0, 0⟩) (fun p => l.length - p.1) ⟨0, Nat.zero_le _, fun j h => by omega⟩ ?_ ?_
  · refine ⟨?_, ?_, ?_, ?_, ?_, ?_, ?_⟩ <;> simp only [go_sem, simprocAttr, decide_eq_true_eq, Int.natCast_zero] <;> try first | omega | ((repeat' (first | exact And.intro rfl (by omega) | (refine And.intro ?_ ?_))) <;> first | rfl | omega | (congr 3; omega) | (congr 2; omega))
  · rintro ⟨i, h1, h2⟩
    simp only
    by_cases hi : i < l.length
    · have c0 := strange_ok (l.getD i []) (hf.get i)
      cases hw : nameL (l.getD i []) with
      | false =>
        rw [hw] at c0
        have e : rr = (i : Int) := by
          rw [← hr, idxB, if_neg (by rw [all_no hi hw]; decide)]
          congr 1
          rw [List.findIdx_eq hi]
          refine ⟨?_, fun j hj => ?_⟩
          · have : l.getD i [] = l[i] := by rw [List.getD_eq_getElem?_getD, List.getElem?_eq_getElem hi]; rfl
            rw [← this, hw]; rfl
          · have := h2 j hj
            rw [List.getD_eq_getElem?_getD, List.getElem?_eq_getElem (by omega)] at this
            simp only [Option.getD_some] at this
            rw [this]; rfl
        rw [e]
        simp (implicitDefEqProofs := false) (disch := omega) only [go_sem, simprocAttr, go_sem, Nat.le_refl, Int.toNat_natCast, Int.toNat_zero, Int.toNat_one, str_eq, sz_bA, tl_bA, encI_len, ↓ix_enc, Tryd.results53]
        with_reducible refine CallOk.of c0 rfl ?_
        simp (implicitDefEqProofs := false) (disch := omega) only [go_sem, simprocAttr, go_sem, Nat.le_refl, Int.toNat_natCast, Int.toNat_zero, Int.toNat_one, str_eq, sz_bA, tl_bA, encI_len, ↓ix_enc, Tryd.results53]
      | true =>
        rw [hw] at c0
        simp (implicitDefEqProofs := false) (disch := omega) only [go_sem, simprocAttr, go_sem, Nat.le_refl, Int.toNat_natCast, Int.toNat_zero, Int.toNat_one, str_eq, sz_bA, tl_bA, encI_len, ↓ix_enc, Tryd.results53]
        with_reducible refine CallOk.of c0 rfl ?_
        simp (implicitDefEqProofs := false) (disch := omega) only [go_sem, simprocAttr, go_sem, Nat.le_refl, Int.toNat_natCast, Int.toNat_zero, Int.toNat_one, str_eq, sz_bA, tl_bA, encI_len, ↓ix_enc, Tryd.results53]
        refine ⟨⟨i + 1, by omega, fun j hj => by
          by_cases e : j = i
          · subst e; exact hw
          · exact h2 j (by omega)⟩, by simp only; omega, ?_⟩
        refine ⟨?_, ?_, ?_, ?_, ?_, ?_, ?_⟩ <;> simp only [go_sem, simprocAttr, decide_eq_true_eq, Int.natCast_add, Int.natCast_one] <;> try first | omega | ((repeat' (first | exact And.intro rfl (by omega) | (refine And.intro ?_ ?_))) <;> first | rfl | omega | (congr 3; omega) | (congr 2; omega))
    · have e : rr = -1 := by rw [← hr, idxB, if_pos (all_get (fun j hj => h2 j (by omega)))]
      rw [e]
      simp (implicitDefEqProofs := false) (disch := omega) only [go_sem, simprocAttr, go_sem, Nat.le_refl, Int.toNat_natCast, Int.toNat_zero, Int.toNat_one, str_eq, sz_bA, tl_bA, encI_len, ↓ix_enc, Tryd.results53]
theorem contB_ok (l : List (List UInt8)) (hl : l.length ≤ 140737488351232) (hf : fewB l) : Ok Tryd.prog 37 [.sl (encB l), .fn 36 []] (vB (!(l.all nameL))) := by
  have c0 := idxB_ok l hl hf
  unfold idxB at c0
  refine Ok.of_pwp (by kernel_rfl) Tryd.func37 rfl (by kernel_rfl) (by kernel_rfl) ?_
  cases h : l.all nameL with
  | true =>
    rw [h, if_pos rfl] at c0
    simp (implicitDefEqProofs := false) (disch := omega) only [go_sem, simprocAttr, go_sem, Nat.le_refl, Int.toNat_natCast, Int.toNat_zero, Int.toNat_one, str_eq, sz_bA, tl_bA, encI_len, ↓ix_enc, Tryd.results37]
    with_reducible refine CallOk.of c0 rfl ?_
    simp (implicitDefEqProofs := false) (disch := omega) only [go_sem, simprocAttr, go_sem, Nat.le_refl, Int.toNat_natCast, Int.toNat_zero, Int.toNat_one, str_eq, sz_bA, tl_bA, encI_len, ↓ix_enc, Tryd.results37]
  | false =>
    rw [h, if_neg (by decide)] at c0
    simp (implicitDefEqProofs := false) (disch := omega) only [go_sem, simprocAttr, go_sem, Nat.le_refl, Int.toNat_natCast, Int.toNat_zero, Int.toNat_one, str_eq, sz_bA, tl_bA, encI_len, ↓ix_enc, Tryd.results37]
    with_reducible refine CallOk.of c0 rfl ?_
    simp (implicitDefEqProofs := false) (disch := omega) only [go_sem, simprocAttr, go_sem, Nat.le_refl, Int.toNat_natCast, Int.toNat_zero, Int.toNat_one, str_eq, sz_bA, tl_bA, encI_len, ↓ix_enc, Tryd.results37]
    exact dT (by omega)
/-- Whether it may be. -/
def goodC (c : Cm) : Bool := match asks c.word with
  | none => false
  | some (a, b, r) => decide (c.names.length = a) && decide (c.nums.length = b) && (r || decide (c.rest = [])) && decide (skp c.rest = c.rest) && c.names.all nameL
set_option maxHeartbeats 8000000 in
theorem good_ok (c : Cm) (h1 : c.names.length ≤ 1000000) (h2 : c.nums.length ≤ 1000000) (hf : fewB c.names) : Ok Tryd.prog 22 [cmP c] (vB (goodC c)) := by
  obtain ⟨w, ns, ms, rt⟩ := c
  simp only at h1 h2 hf
  have c1 := shaped_ok w
  have c2 := trimL_ok rt
  have c3 := contB_ok ns (by omega) hf
  unfold goodC cmP
  simp only
  refine Ok.of_pwp (by kernel_rfl) Tryd.func22 rfl (by kernel_rfl) (by kernel_rfl) ?_
  cases ha : asks w with
  | none =>
    rw [ha] at c1
    unfold shpP at c1
    simp (implicitDefEqProofs := false) (disch := omega) only [go_sem, simprocAttr, go_sem, Nat.le_refl, Int.toNat_natCast, Int.toNat_zero, Int.toNat_one, str_eq, sz_bA, tl_bA, encI_len, ↓ix_enc, Tryd.results22]
    with_reducible refine CallOk.of c1 rfl ?_
    simp (implicitDefEqProofs := false) (disch := omega) only [go_sem, simprocAttr, go_sem, Nat.le_refl, Int.toNat_natCast, Int.toNat_zero, Int.toNat_one, str_eq, sz_bA, tl_bA, encI_len, ↓ix_enc, Tryd.results22]
  | some q =>
    obtain ⟨a, b, r⟩ := q
    rw [ha] at c1
    unfold shpP at c1
    simp only at c1 ⊢
    by_cases g1 : ns.length = a
    rotate_left
    · rw [decide_eq_false g1]
      simp only [Bool.false_and]
      simp (implicitDefEqProofs := false) (disch := omega) only [go_sem, simprocAttr, go_sem, Nat.le_refl, Int.toNat_natCast, Int.toNat_zero, Int.toNat_one, str_eq, sz_bA, tl_bA, encI_len, ↓ix_enc, Tryd.results22]
      with_reducible refine CallOk.of c1 rfl ?_
      simp (implicitDefEqProofs := false) (disch := omega) only [go_sem, simprocAttr, go_sem, Nat.le_refl, Int.toNat_natCast, Int.toNat_zero, Int.toNat_one, str_eq, sz_bA, tl_bA, encI_len, ↓ix_enc, Tryd.results22]
      first | done | rfl
    by_cases g2 : ms.length = b
    rotate_left
    · rw [decide_eq_true g1, decide_eq_false g2]
      simp only [Bool.false_and, Bool.true_and]
      simp (implicitDefEqProofs := false) (disch := omega) only [go_sem, simprocAttr, go_sem, Nat.le_refl, Int.toNat_natCast, Int.toNat_zero, Int.toNat_one, str_eq, sz_bA, tl_bA, encI_len, ↓ix_enc, Tryd.results22]
      with_reducible refine CallOk.of c1 rfl ?_
      simp (implicitDefEqProofs := false) (disch := omega) only [go_sem, simprocAttr, go_sem, Nat.le_refl, Int.toNat_natCast, Int.toNat_zero, Int.toNat_one, str_eq, sz_bA, tl_bA, encI_len, ↓ix_enc, Tryd.results22]
      first | done | rfl
    rw [decide_eq_true g1, decide_eq_true g2]
    simp only [Bool.true_and]
    by_cases g3 : r = false ∧ rt ≠ []
    · obtain ⟨rfl, g3⟩ := g3
      have e3 : decide (rt = []) = false := decide_eq_false g3
      rw [e3]
      simp only [Bool.or_self, Bool.false_and]
      simp (implicitDefEqProofs := false) (disch := omega) only [go_sem, simprocAttr, go_sem, Nat.le_refl, Int.toNat_natCast, Int.toNat_zero, Int.toNat_one, str_eq, sz_bA, tl_bA, encI_len, ↓ix_enc, Tryd.results22, g1, g2, e3]
      with_reducible refine CallOk.of c1 rfl ?_
      simp (implicitDefEqProofs := false) (disch := omega) only [go_sem, simprocAttr, go_sem, Nat.le_refl, Int.toNat_natCast, Int.toNat_zero, Int.toNat_one, str_eq, sz_bA, tl_bA, encI_len, ↓ix_enc, Tryd.results22, g1, g2, e3]
      first | done | rfl
    have e3 : (r || decide (rt = [])) = true := by
      cases r with
      | true => rfl
      | false => rw [decide_eq_true (by apply Decidable.byContradiction; intro k; exact g3 ⟨rfl, k⟩)]; rfl
    rw [e3]
    simp only [Bool.true_and]
    by_cases g4 : skp rt = rt
    rotate_left
    · rw [decide_eq_false g4]
      simp only [Bool.false_and]
      cases r with
      | true =>
        simp (implicitDefEqProofs := false) (disch := omega) only [go_sem, simprocAttr, go_sem, Nat.le_refl, Int.toNat_natCast, Int.toNat_zero, Int.toNat_one, str_eq, sz_bA, tl_bA, encI_len, ↓ix_enc, Tryd.results22, g1, g2]
        with_reducible refine CallOk.of c1 rfl ?_
        simp (implicitDefEqProofs := false) (disch := omega) only [go_sem, simprocAttr, go_sem, Nat.le_refl, Int.toNat_natCast, Int.toNat_zero, Int.toNat_one, str_eq, sz_bA, tl_bA, encI_len, ↓ix_enc, Tryd.results22, g1, g2]
        with_reducible refine CallOk.of c2 rfl ?_
        simp (implicitDefEqProofs := false) (disch := omega) only [go_sem, simprocAttr, go_sem, Nat.le_refl, Int.toNat_natCast, Int.toNat_zero, Int.toNat_one, str_eq, sz_bA, tl_bA, encI_len, ↓ix_enc, Tryd.results22, g1, g2]
        first | done | rfl
      | false =>
        have e5 : decide (rt = []) = true := by simpa using e3
        simp (implicitDefEqProofs := false) (disch := omega) only [go_sem, simprocAttr, go_sem, Nat.le_refl, Int.toNat_natCast, Int.toNat_zero, Int.toNat_one, str_eq, sz_bA, tl_bA, encI_len, ↓ix_enc, Tryd.results22, g1, g2, e5]
        with_reducible refine CallOk.of c1 rfl ?_
        simp (implicitDefEqProofs := false) (disch := omega) only [go_sem, simprocAttr, go_sem, Nat.le_refl, Int.toNat_natCast, Int.toNat_zero, Int.toNat_one, str_eq, sz_bA, tl_bA, encI_len, ↓ix_enc, Tryd.results22, g1, g2, e5]
        with_reducible refine CallOk.of c2 rfl ?_
        simp (implicitDefEqProofs := false) (disch := omega) only [go_sem, simprocAttr, go_sem, Nat.le_refl, Int.toNat_natCast, Int.toNat_zero, Int.toNat_one, str_eq, sz_bA, tl_bA, encI_len, ↓ix_enc, Tryd.results22, g1, g2, e5]
        first | done | rfl
    rw [decide_eq_true g4]
    simp only [Bool.true_and]
    rw [g4] at c2
    cases r with
    | true =>
      cases hn : ns.all nameL with
      | true =>
        rw [hn] at c3
        simp (implicitDefEqProofs := false) (disch := omega) only [go_sem, simprocAttr, go_sem, Nat.le_refl, Int.toNat_natCast, Int.toNat_zero, Int.toNat_one, str_eq, sz_bA, tl_bA, encI_len, ↓ix_enc, Tryd.results22, g1, g2]
        with_reducible refine CallOk.of c1 rfl ?_
        simp (implicitDefEqProofs := false) (disch := omega) only [go_sem, simprocAttr, go_sem, Nat.le_refl, Int.toNat_natCast, Int.toNat_zero, Int.toNat_one, str_eq, sz_bA, tl_bA, encI_len, ↓ix_enc, Tryd.results22, g1, g2]
        with_reducible refine CallOk.of c2 rfl ?_
        simp (implicitDefEqProofs := false) (disch := omega) only [go_sem, simprocAttr, go_sem, Nat.le_refl, Int.toNat_natCast, Int.toNat_zero, Int.toNat_one, str_eq, sz_bA, tl_bA, encI_len, ↓ix_enc, Tryd.results22, g1, g2]
        with_reducible refine CallOk.of c3 rfl ?_
        simp (implicitDefEqProofs := false) (disch := omega) only [go_sem, simprocAttr, go_sem, Nat.le_refl, Int.toNat_natCast, Int.toNat_zero, Int.toNat_one, str_eq, sz_bA, tl_bA, encI_len, ↓ix_enc, Tryd.results22, g1, g2]
      | false =>
        rw [hn] at c3
        simp (implicitDefEqProofs := false) (disch := omega) only [go_sem, simprocAttr, go_sem, Nat.le_refl, Int.toNat_natCast, Int.toNat_zero, Int.toNat_one, str_eq, sz_bA, tl_bA, encI_len, ↓ix_enc, Tryd.results22, g1, g2]
        with_reducible refine CallOk.of c1 rfl ?_
        simp (implicitDefEqProofs := false) (disch := omega) only [go_sem, simprocAttr, go_sem, Nat.le_refl, Int.toNat_natCast, Int.toNat_zero, Int.toNat_one, str_eq, sz_bA, tl_bA, encI_len, ↓ix_enc, Tryd.results22, g1, g2]
        with_reducible refine CallOk.of c2 rfl ?_
        simp (implicitDefEqProofs := false) (disch := omega) only [go_sem, simprocAttr, go_sem, Nat.le_refl, Int.toNat_natCast, Int.toNat_zero, Int.toNat_one, str_eq, sz_bA, tl_bA, encI_len, ↓ix_enc, Tryd.results22, g1, g2]
        with_reducible refine CallOk.of c3 rfl ?_
        simp (implicitDefEqProofs := false) (disch := omega) only [go_sem, simprocAttr, go_sem, Nat.le_refl, Int.toNat_natCast, Int.toNat_zero, Int.toNat_one, str_eq, sz_bA, tl_bA, encI_len, ↓ix_enc, Tryd.results22, g1, g2]
    | false =>
      have e5 : decide (rt = []) = true := by simpa using e3
      cases hn : ns.all nameL with
      | true =>
        rw [hn] at c3
        simp (implicitDefEqProofs := false) (disch := omega) only [go_sem, simprocAttr, go_sem, Nat.le_refl, Int.toNat_natCast, Int.toNat_zero, Int.toNat_one, str_eq, sz_bA, tl_bA, encI_len, ↓ix_enc, Tryd.results22, g1, g2, e5]
        with_reducible refine CallOk.of c1 rfl ?_
        simp (implicitDefEqProofs := false) (disch := omega) only [go_sem, simprocAttr, go_sem, Nat.le_refl, Int.toNat_natCast, Int.toNat_zero, Int.toNat_one, str_eq, sz_bA, tl_bA, encI_len, ↓ix_enc, Tryd.results22, g1, g2, e5]
        with_reducible refine CallOk.of c2 rfl ?_
        simp (implicitDefEqProofs := false) (disch := omega) only [go_sem, simprocAttr, go_sem, Nat.le_refl, Int.toNat_natCast, Int.toNat_zero, Int.toNat_one, str_eq, sz_bA, tl_bA, encI_len, ↓ix_enc, Tryd.results22, g1, g2, e5]
        with_reducible refine CallOk.of c3 rfl ?_
        simp (implicitDefEqProofs := false) (disch := omega) only [go_sem, simprocAttr, go_sem, Nat.le_refl, Int.toNat_natCast, Int.toNat_zero, Int.toNat_one, str_eq, sz_bA, tl_bA, encI_len, ↓ix_enc, Tryd.results22, g1, g2, e5]
      | false =>
        rw [hn] at c3
        simp (implicitDefEqProofs := false) (disch := omega) only [go_sem, simprocAttr, go_sem, Nat.le_refl, Int.toNat_natCast, Int.toNat_zero, Int.toNat_one, str_eq, sz_bA, tl_bA, encI_len, ↓ix_enc, Tryd.results22, g1, g2, e5]
        with_reducible refine CallOk.of c1 rfl ?_
        simp (implicitDefEqProofs := false) (disch := omega) only [go_sem, simprocAttr, go_sem, Nat.le_refl, Int.toNat_natCast, Int.toNat_zero, Int.toNat_one, str_eq, sz_bA, tl_bA, encI_len, ↓ix_enc, Tryd.results22, g1, g2, e5]
        with_reducible refine CallOk.of c2 rfl ?_
        simp (implicitDefEqProofs := false) (disch := omega) only [go_sem, simprocAttr, go_sem, Nat.le_refl, Int.toNat_natCast, Int.toNat_zero, Int.toNat_one, str_eq, sz_bA, tl_bA, encI_len, ↓ix_enc, Tryd.results22, g1, g2, e5]
        with_reducible refine CallOk.of c3 rfl ?_
        simp (implicitDefEqProofs := false) (disch := omega) only [go_sem, simprocAttr, go_sem, Nat.le_refl, Int.toNat_natCast, Int.toNat_zero, Int.toNat_one, str_eq, sz_bA, tl_bA, encI_len, ↓ix_enc, Tryd.results22, g1, g2, e5]
end Go.Proofs.YtegehnojbfedlaaDoor

end
