/-
  Contracts and plain laws on the way to the statement; each says its own conditions.
-/
import Derived.Test.YtfhdokpcnkpcpaaG5
open Go Go.Proofs Go.Pw
namespace Go.Proofs.Ytfhdokpcnkpcpaa
set_option linter.unusedSimpArgs false
set_option linter.unusedVariables false
theorem enc_bytes (n : Int) (h : isF n = true) : Utf8.encode n = strOfNums (bytesF n) := by
  have hv : Utf8.valid n = true := by
    unfold isF at h
    simp only [decide_eq_true_eq] at h
    unfold Utf8.valid
    simp only [Bool.or_eq_true, Bool.and_eq_true, decide_eq_true_eq]
    omega
  unfold isF at h
  simp only [decide_eq_true_eq] at h
  have hb : ∀ (a : Nat) (b : Int), (a : Int) = b → UInt8.ofNat a = UInt8.ofNat b.toNat := fun a b e => by rw [← e]; rfl
  unfold Utf8.encode bytesF strOfNums
  simp only [hv, if_true]
  by_cases c1 : n < 128
  · rw [if_pos (by omega), if_pos c1]
    simp only [List.map_cons, List.map_nil]
  · rw [if_neg (by omega), if_neg c1]
    by_cases c2 : n < 2048
    · rw [if_pos (by omega), if_pos c2]
      simp only [List.map_cons, List.map_nil]
      rw [hb (0xC0 + n.toNat / 64) (192 + n / 64) (by omega), hb (0x80 + n.toNat % 64) (128 + n % 64) (by omega)]
    · rw [if_neg (by omega), if_neg c2]
      by_cases c3 : n < 65536
      · rw [if_pos (by omega), if_pos c3]
        simp only [List.map_cons, List.map_nil]
        rw [hb (0xE0 + n.toNat / 4096) (224 + n / 4096) (by omega), hb (0x80 + n.toNat / 64 % 64) (128 + n / 64 % 64) (by omega), hb (0x80 + n.toNat % 64) (128 + n % 64) (by omega)]
      · rw [if_neg (by omega), if_neg c3]
        simp only [List.map_cons, List.map_nil]
        rw [hb (0xF0 + n.toNat / 262144) (240 + n / 262144) (by omega), hb (0x80 + n.toNat / 4096 % 64) (128 + n / 4096 % 64) (by omega), hb (0x80 + n.toNat / 64 % 64) (128 + n / 64 % 64) (by omega), hb (0x80 + n.toNat % 64) (128 + n % 64) (by omega)]
theorem byteN_app {l : List Int} (hl : ∀ x ∈ l, 0 ≤ x ∧ x ≤ 255) (t : ByteArray) (k : Nat) (h : k < l.length) : (byteN (strOfNums l ++ t) k : Int) = l.getD k 0 := by
  have hd : (strOfNums l ++ t).data.toList = (l.map fun n => UInt8.ofNat n.toNat) ++ t.data.toList := by
    rw [ByteArray.data_append, Array.toList_append]
    rfl
  have hx := hl _ (List.getElem_mem h)
  unfold byteN
  rw [hd, List.getD_eq_getElem?_getD, List.getElem?_append_left (by simpa using h), List.getElem?_map, List.getElem?_eq_getElem h]
  simp only [Option.map_some, Option.getD_some, List.getD_eq_getElem?_getD, List.getElem?_eq_getElem h]
  rw [UInt8.toNat_ofNat']
  omega
theorem dec_enc (n : Int) (h : isF n = true) (t : ByteArray) : goodN (Utf8.decode (strOfNums (bytesF n) ++ t) 0) = (n, ((bytesF n).length : Int)) := by
  have hp : isPt n := by unfold isF at h; simp only [decide_eq_true_eq] at h; exact ⟨by omega, by omega⟩
  have hB := bytesF_byte n hp
  have g := fun k hk => byteN_app hB t k hk
  have hs : (strOfNums (bytesF n) ++ t).size = (bytesF n).length + t.size := by rw [ByteArray.size_append, strOfNums_size]
  rw [Lib.decode_at]
  simp only [get!_byteN, Nat.zero_add]
  have hs0 : (strOfNums (bytesF n) ++ t).size - 0 = (bytesF n).length + t.size := by omega
  rw [hs0]
  generalize strOfNums (bytesF n) ++ t = s at *
  have b1 := byteN_lt s 1
  have b2 := byteN_lt s 2
  have b3 := byteN_lt s 3
  have b0 := byteN_lt s 0
  unfold isF at h
  simp only [decide_eq_true_eq] at h
  have nope : ∀ a b : Nat, (a ≠ 65533 ∨ b ≠ 1) → goodN (a, b) = ((a : Int), (b : Int)) := fun a b h => by
    unfold goodN
    rw [if_neg (by rw [Prod.mk.injEq]; omega)]
  unfold bytesF at *
  unfold Lib.decodeN
  by_cases c1 : n < 128
  · simp only [if_pos c1] at *
    have g0 := g 0 (by simp)
    simp only [List.getD_cons_zero] at g0
    rw [if_pos (by omega), nope _ _ (by omega)]
    exact Prod.ext (by simp only; omega) rfl
  · simp only [if_neg c1] at *
    by_cases c2 : n < 2048
    · simp only [if_pos c2] at *
      have g0 := g 0 (by simp)
      have g1 := g 1 (by simp)
      simp only [List.getD_cons_zero, List.getD_cons_succ] at g0 g1
      simp only [List.length_cons, List.length_nil]
      rw [if_neg (by omega), if_pos (by omega), if_pos (by omega), nope _ _ (by omega)]
      exact Prod.ext (by simp only; omega) rfl
    · simp only [if_neg c2] at *
      by_cases c3 : n < 65536
      · simp only [if_pos c3] at *
        have g0 := g 0 (by simp)
        have g1 := g 1 (by simp)
        have g2 := g 2 (by simp)
        simp only [List.getD_cons_zero, List.getD_cons_succ] at g0 g1 g2
        simp only [List.length_cons, List.length_nil]
        rw [if_neg (by omega), if_neg (by omega), if_pos (by omega), if_pos (by omega), nope _ _ (by omega)]
        exact Prod.ext (by simp only; omega) rfl
      · simp only [if_neg c3] at *
        have g0 := g 0 (by simp)
        have g1 := g 1 (by simp)
        have g2 := g 2 (by simp)
        have g3 := g 3 (by simp)
        simp only [List.getD_cons_zero, List.getD_cons_succ] at g0 g1 g2 g3
        simp only [List.length_cons, List.length_nil]
        rw [if_neg (by omega), if_neg (by omega), if_neg (by omega), if_pos (by omega), if_pos (by omega), nope _ _ (by omega)]
        exact Prod.ext (by simp only; omega) rfl
set_option maxHeartbeats 4000000 in
theorem points_ok (n : Int) (m : ByteArray) (hn : -9223372036854775808 ≤ n ∧ n ≤ 9223372036854775807) (hm : m.size ≤ 140737488351232) : Ok Try.prog 4 [vI n, vS m] (vB true) := by
  have e := encode_ok n
  refine Ok.of_pwp (by kernel_rfl) Try.func4 rfl (by kernel_rfl) (by kernel_rfl) ?_
  simp (implicitDefEqProofs := false) (disch := omega) only [go_sem, reduceCtorEq, Nat.reduceEqDiff, Nat.reduceBEq, ↓reduceIte, Nat.reduceGT, Nat.reduceAdd, Int.reduceEq, Int.reduceLT, Int.reduceLE, Int.reduceNeg, Int.reduceAdd, Int.reduceSub, Int.reduceMul, Int.reduceDiv, Int.reduceMod, Nat.reduceLT, Nat.reduceLeDiff, Nat.reduceMul, Nat.reduceSub, Int.reduceToNat, go_sem, ↓ix_enc, encI_len, encI_take, Nat.le_refl, Try.results4]
  with_reducible refine CallOk.of awake_ok rfl ?_
  simp (implicitDefEqProofs := false) (disch := omega) only [go_sem, reduceCtorEq, Nat.reduceEqDiff, Nat.reduceBEq, ↓reduceIte, Nat.reduceGT, Nat.reduceAdd, Int.reduceEq, Int.reduceLT, Int.reduceLE, Int.reduceNeg, Int.reduceAdd, Int.reduceSub, Int.reduceMul, Int.reduceDiv, Int.reduceMod, Nat.reduceLT, Nat.reduceLeDiff, Nat.reduceMul, Nat.reduceSub, Int.reduceToNat, go_sem, ↓ix_enc, encI_len, encI_take, Nat.le_refl, Try.results4]
  by_cases h100 : m.size ≤ 100
  · simp (implicitDefEqProofs := false) (disch := omega) only [go_sem, reduceCtorEq, Nat.reduceEqDiff, Nat.reduceBEq, ↓reduceIte, Nat.reduceGT, Nat.reduceAdd, Int.reduceEq, Int.reduceLT, Int.reduceLE, Int.reduceNeg, Int.reduceAdd, Int.reduceSub, Int.reduceMul, Int.reduceDiv, Int.reduceMod, Nat.reduceLT, Nat.reduceLeDiff, Nat.reduceMul, Nat.reduceSub, Int.reduceToNat, go_sem, ↓ix_enc, encI_len, encI_take, Nat.le_refl, Try.results4]
    with_reducible refine CallOk.of e rfl ?_
    simp (implicitDefEqProofs := false) (disch := omega) only [go_sem, reduceCtorEq, Nat.reduceEqDiff, Nat.reduceBEq, ↓reduceIte, Nat.reduceGT, Nat.reduceAdd, Int.reduceEq, Int.reduceLT, Int.reduceLE, Int.reduceNeg, Int.reduceAdd, Int.reduceSub, Int.reduceMul, Int.reduceDiv, Int.reduceMod, Nat.reduceLT, Nat.reduceLeDiff, Nat.reduceMul, Nat.reduceSub, Int.reduceToNat, go_sem, ↓ix_enc, encI_len, encI_take, Nat.le_refl, Try.results4]
    with_reducible refine CallOk.of (ris_ok n) rfl ?_
    simp (implicitDefEqProofs := false) (disch := omega) only [go_sem, reduceCtorEq, Nat.reduceEqDiff, Nat.reduceBEq, ↓reduceIte, Nat.reduceGT, Nat.reduceAdd, Int.reduceEq, Int.reduceLT, Int.reduceLE, Int.reduceNeg, Int.reduceAdd, Int.reduceSub, Int.reduceMul, Int.reduceDiv, Int.reduceMod, Nat.reduceLT, Nat.reduceLeDiff, Nat.reduceMul, Nat.reduceSub, Int.reduceToNat, go_sem, ↓ix_enc, encI_len, encI_take, Nat.le_refl, Try.results4]
    by_cases hi : isF n = true
    · have ee : encF n = strOfNums (bytesF n) := by unfold encF; rw [if_pos hi, enc_bytes n hi]
      have bl := bytesF_len n
      have hs : (strOfNums (bytesF n) ++ m).size = (bytesF n).length + m.size := by rw [ByteArray.size_append, strOfNums_size]
      have d := decode_ok0 (strOfNums (bytesF n) ++ m) (by omega)
      rw [decF_good _ (by omega), dec_enc n hi] at d
      have t := text_ok [n] (fun x hx => by
        obtain rfl := List.mem_singleton.1 hx
        unfold isF at hi; simp only [decide_eq_true_eq] at hi; exact ⟨by omega, by omega⟩) (by simp)
      have et : textN [n] = bytesF n := by simp [textN]
      rw [et] at t
      simp only [encI, List.map_cons, List.map_nil] at t
      rw [ee, hi]
      simp (implicitDefEqProofs := false) (disch := omega) only [go_sem, reduceCtorEq, Nat.reduceEqDiff, Nat.reduceBEq, ↓reduceIte, Nat.reduceGT, Nat.reduceAdd, Int.reduceEq, Int.reduceLT, Int.reduceLE, Int.reduceNeg, Int.reduceAdd, Int.reduceSub, Int.reduceMul, Int.reduceDiv, Int.reduceMod, Nat.reduceLT, Nat.reduceLeDiff, Nat.reduceMul, Nat.reduceSub, Int.reduceToNat, go_sem, ↓ix_enc, encI_len, encI_take, Nat.le_refl, Try.results4]
      refine ⟨by rw [strOfNums_size]; omega, ?_⟩
      with_reducible refine CallOk.of d rfl ?_
      simp (implicitDefEqProofs := false) (disch := omega) only [go_sem, reduceCtorEq, Nat.reduceEqDiff, Nat.reduceBEq, ↓reduceIte, Nat.reduceGT, Nat.reduceAdd, Int.reduceEq, Int.reduceLT, Int.reduceLE, Int.reduceNeg, Int.reduceAdd, Int.reduceSub, Int.reduceMul, Int.reduceDiv, Int.reduceMod, Nat.reduceLT, Nat.reduceLeDiff, Nat.reduceMul, Nat.reduceSub, Int.reduceToNat, go_sem, ↓ix_enc, encI_len, encI_take, Nat.le_refl, Try.results4]
      with_reducible refine CallOk.of (gis_ok n) rfl ?_
      simp (implicitDefEqProofs := false) (disch := omega) only [go_sem, reduceCtorEq, Nat.reduceEqDiff, Nat.reduceBEq, ↓reduceIte, Nat.reduceGT, Nat.reduceAdd, Int.reduceEq, Int.reduceLT, Int.reduceLE, Int.reduceNeg, Int.reduceAdd, Int.reduceSub, Int.reduceMul, Int.reduceDiv, Int.reduceMod, Nat.reduceLT, Nat.reduceLeDiff, Nat.reduceMul, Nat.reduceSub, Int.reduceToNat, go_sem, ↓ix_enc, encI_len, encI_take, Nat.le_refl, hi, Try.results4]
      with_reducible refine CallOk.of t rfl ?_
      simp (implicitDefEqProofs := false) (disch := omega) only [go_sem, reduceCtorEq, Nat.reduceEqDiff, Nat.reduceBEq, ↓reduceIte, Nat.reduceGT, Nat.reduceAdd, Int.reduceEq, Int.reduceLT, Int.reduceLE, Int.reduceNeg, Int.reduceAdd, Int.reduceSub, Int.reduceMul, Int.reduceDiv, Int.reduceMod, Nat.reduceLT, Nat.reduceLeDiff, Nat.reduceMul, Nat.reduceSub, Int.reduceToNat, go_sem, ↓ix_enc, encI_len, encI_take, Nat.le_refl, strOfNums_size, Try.results4]
      trace_state
    · have hi' : isF n = false := by simpa using hi
      have ee : encF n = ⟨#[]⟩ := by unfold encF; rw [if_neg hi]
      rw [ee, hi']
      simp (implicitDefEqProofs := false) (disch := omega) only [go_sem, reduceCtorEq, Nat.reduceEqDiff, Nat.reduceBEq, ↓reduceIte, Nat.reduceGT, Nat.reduceAdd, Int.reduceEq, Int.reduceLT, Int.reduceLE, Int.reduceNeg, Int.reduceAdd, Int.reduceSub, Int.reduceMul, Int.reduceDiv, Int.reduceMod, Nat.reduceLT, Nat.reduceLeDiff, Nat.reduceMul, Nat.reduceSub, Int.reduceToNat, go_sem, ↓ix_enc, encI_len, encI_take, Nat.le_refl, Try.results4]
      with_reducible refine CallOk.of (gis_ok n) rfl ?_
      simp (implicitDefEqProofs := false) (disch := omega) only [go_sem, reduceCtorEq, Nat.reduceEqDiff, Nat.reduceBEq, ↓reduceIte, Nat.reduceGT, Nat.reduceAdd, Int.reduceEq, Int.reduceLT, Int.reduceLE, Int.reduceNeg, Int.reduceAdd, Int.reduceSub, Int.reduceMul, Int.reduceDiv, Int.reduceMod, Nat.reduceLT, Nat.reduceLeDiff, Nat.reduceMul, Nat.reduceSub, Int.reduceToNat, go_sem, ↓ix_enc, encI_len, encI_take, Nat.le_refl, hi', Try.results4]
      trace_state
  · simp (implicitDefEqProofs := false) (disch := omega) only [go_sem, reduceCtorEq, Nat.reduceEqDiff, Nat.reduceBEq, ↓reduceIte, Nat.reduceGT, Nat.reduceAdd, Int.reduceEq, Int.reduceLT, Int.reduceLE, Int.reduceNeg, Int.reduceAdd, Int.reduceSub, Int.reduceMul, Int.reduceDiv, Int.reduceMod, Nat.reduceLT, Nat.reduceLeDiff, Nat.reduceMul, Nat.reduceSub, Int.reduceToNat, go_sem, ↓ix_enc, encI_len, encI_take, Nat.le_refl, Try.results4]
    with_reducible refine CallOk.of awake_ok rfl ?_
    simp (implicitDefEqProofs := false) (disch := omega) only [go_sem, reduceCtorEq, Nat.reduceEqDiff, Nat.reduceBEq, ↓reduceIte, Nat.reduceGT, Nat.reduceAdd, Int.reduceEq, Int.reduceLT, Int.reduceLE, Int.reduceNeg, Int.reduceAdd, Int.reduceSub, Int.reduceMul, Int.reduceDiv, Int.reduceMod, Nat.reduceLT, Nat.reduceLeDiff, Nat.reduceMul, Nat.reduceSub, Int.reduceToNat, go_sem, ↓ix_enc, encI_len, encI_take, Nat.le_refl, Try.results4]
end Go.Proofs.Ytfhdokpcnkpcpaa
