/-
  Contracts and plain laws on the way to the statement; each says its own conditions.
-/
import Derived.Test.YtfhdokpcnkpcpaaG4
open Go Go.Proofs Go.Pw
namespace Go.Proofs.Ytfhdokpcnkpcpaa
set_option linter.unusedSimpArgs false
set_option linter.unusedVariables false
theorem halves_ok (n : Int) (h : 65536 ≤ n) (h' : n ≤ 1114111) : Ok Try.prog 12 [vI n] (.tup [vI (55296 + (n - 65536) / 1024), vI (56320 + (n - 65536) % 1024), vB true]) := by
  refine Ok.of_pwp (by kernel_rfl) Try.func12 rfl (by kernel_rfl) (by kernel_rfl) ?_
  simp (implicitDefEqProofs := false) (disch := omega) only [go_sem, reduceCtorEq, Nat.reduceEqDiff, Nat.reduceBEq, ↓reduceIte, Nat.reduceGT, Nat.reduceAdd, Int.reduceEq, Int.reduceLT, Int.reduceLE, Int.reduceNeg, Int.reduceAdd, Int.reduceSub, Int.reduceMul, Int.reduceDiv, Int.reduceMod, Nat.reduceLT, Nat.reduceLeDiff, Nat.reduceMul, Nat.reduceSub, Int.reduceToNat, go_sem, ↓ix_enc, encI_len, encI_take, Nat.le_refl, tdivE, tmodE, Try.results12]
def encF (n : Int) : ByteArray := if isF n then Utf8.encode n else ⟨#[]⟩
theorem encode_ok (n : Int) : Ok Try.prog 13 [vI n] (vS (encF n)) := by
  refine Ok.of_pwp (by kernel_rfl) Try.func13 rfl (by kernel_rfl) (by kernel_rfl) ?_
  unfold encF
  simp (implicitDefEqProofs := false) (disch := omega) only [go_sem, reduceCtorEq, Nat.reduceEqDiff, Nat.reduceBEq, ↓reduceIte, Nat.reduceGT, Nat.reduceAdd, Int.reduceEq, Int.reduceLT, Int.reduceLE, Int.reduceNeg, Int.reduceAdd, Int.reduceSub, Int.reduceMul, Int.reduceDiv, Int.reduceMod, Nat.reduceLT, Nat.reduceLeDiff, Nat.reduceMul, Nat.reduceSub, Int.reduceToNat, go_sem, ↓ix_enc, encI_len, encI_take, Nat.le_refl, Try.results13]
  with_reducible refine CallOk.of (gis_ok _) rfl ?_
  simp (implicitDefEqProofs := false) (disch := omega) only [go_sem, reduceCtorEq, Nat.reduceEqDiff, Nat.reduceBEq, ↓reduceIte, Nat.reduceGT, Nat.reduceAdd, Int.reduceEq, Int.reduceLT, Int.reduceLE, Int.reduceNeg, Int.reduceAdd, Int.reduceSub, Int.reduceMul, Int.reduceDiv, Int.reduceMod, Nat.reduceLT, Nat.reduceLeDiff, Nat.reduceMul, Nat.reduceSub, Int.reduceToNat, go_sem, ↓ix_enc, encI_len, encI_take, Nat.le_refl, Try.results13]
  with_reducible refine ifK_bsplit (fun h => ?_) (fun h => ?_)
  · have h' : isF n = false := by simpa using h
    simp (implicitDefEqProofs := false) (disch := omega) only [go_sem, reduceCtorEq, Nat.reduceEqDiff, Nat.reduceBEq, ↓reduceIte, Nat.reduceGT, Nat.reduceAdd, Int.reduceEq, Int.reduceLT, Int.reduceLE, Int.reduceNeg, Int.reduceAdd, Int.reduceSub, Int.reduceMul, Int.reduceDiv, Int.reduceMod, Nat.reduceLT, Nat.reduceLeDiff, Nat.reduceMul, Nat.reduceSub, Int.reduceToNat, go_sem, ↓ix_enc, encI_len, encI_take, Nat.le_refl, Try.results13]
    rw [h']
    rfl
  · have h' : isF n = true := by simpa using h
    rw [if_pos h']
    simp only [isF, decide_eq_true_eq] at h'
    have w : IntKind.i32.wrap n = n := wrap32 (by omega) (by omega)
    simp (implicitDefEqProofs := false) (disch := omega) only [go_sem, reduceCtorEq, Nat.reduceEqDiff, Nat.reduceBEq, ↓reduceIte, Nat.reduceGT, Nat.reduceAdd, Int.reduceEq, Int.reduceLT, Int.reduceLE, Int.reduceNeg, Int.reduceAdd, Int.reduceSub, Int.reduceMul, Int.reduceDiv, Int.reduceMod, Nat.reduceLT, Nat.reduceLeDiff, Nat.reduceMul, Nat.reduceSub, Int.reduceToNat, go_sem, ↓ix_enc, encI_len, encI_take, Nat.le_refl, w, Try.results13]
theorem enc_ex : encF 128512 = ⟨#[240, 159, 152, 128]⟩ := by decide +kernel
theorem awake_ok : Ok Try.prog 10 [] (vB true) := by
  refine Ok.of_pwp (by kernel_rfl) Try.func10 rfl (by kernel_rfl) (by kernel_rfl) ?_
  simp (implicitDefEqProofs := false) (disch := omega) only [go_sem, reduceCtorEq, Nat.reduceEqDiff, Nat.reduceBEq, ↓reduceIte, Nat.reduceGT, Nat.reduceAdd, Int.reduceEq, Int.reduceLT, Int.reduceLE, Int.reduceNeg, Int.reduceAdd, Int.reduceSub, Int.reduceMul, Int.reduceDiv, Int.reduceMod, Nat.reduceLT, Nat.reduceLeDiff, Nat.reduceMul, Nat.reduceSub, Int.reduceToNat, go_sem, ↓ix_enc, encI_len, encI_take, Nat.le_refl, Try.results10]
  with_reducible refine CallOk.of (halves_ok _ (by omega) (by omega)) rfl ?_
  simp (implicitDefEqProofs := false) (disch := omega) only [go_sem, reduceCtorEq, Nat.reduceEqDiff, Nat.reduceBEq, ↓reduceIte, Nat.reduceGT, Nat.reduceAdd, Int.reduceEq, Int.reduceLT, Int.reduceLE, Int.reduceNeg, Int.reduceAdd, Int.reduceSub, Int.reduceMul, Int.reduceDiv, Int.reduceMod, Nat.reduceLT, Nat.reduceLeDiff, Nat.reduceMul, Nat.reduceSub, Int.reduceToNat, go_sem, ↓ix_enc, encI_len, encI_take, Nat.le_refl, Try.results10]
  with_reducible refine CallOk.of (encode_ok _) rfl ?_
  simp (implicitDefEqProofs := false) (disch := omega) only [go_sem, reduceCtorEq, Nat.reduceEqDiff, Nat.reduceBEq, ↓reduceIte, Nat.reduceGT, Nat.reduceAdd, Int.reduceEq, Int.reduceLT, Int.reduceLE, Int.reduceNeg, Int.reduceAdd, Int.reduceSub, Int.reduceMul, Int.reduceDiv, Int.reduceMod, Nat.reduceLT, Nat.reduceLeDiff, Nat.reduceMul, Nat.reduceSub, Int.reduceToNat, go_sem, ↓ix_enc, encI_len, encI_take, Nat.le_refl, Try.results10, enc_ex]
theorem hasPF_eq (s : ByteArray) : hasPF s ⟨#[239, 191, 189]⟩ = decide (3 ≤ s.size ∧ byteN s 0 = 239 ∧ byteN s 1 = 191 ∧ byteN s 2 = 189) := by
  have e : ∀ (p : ByteArray), (s.extract 0 p.size = p) = ((s.data.toList.take p.size) = p.data.toList) := fun p => by
    rw [← str_eq]
    simp
  unfold hasPF byteN
  rw [Bool.eq_iff_iff]
  simp only [Bool.and_eq_true, decide_eq_true_eq]
  rw [e]
  rw [show (⟨#[239, 191, 189]⟩ : ByteArray).size = 3 from rfl, show (⟨#[239, 191, 189]⟩ : ByteArray).data.toList = [239, 191, 189] from rfl]
  have hsz : s.size = s.data.toList.length := (Array.length_toList).symm
  rw [hsz]
  generalize s.data.toList = l
  have k0 : ∀ x : UInt8, (x.toNat = 239) = (x = 239) := fun x => propext ⟨fun h => UInt8.toNat_inj.1 h, fun h => by rw [h]; rfl⟩
  have k1 : ∀ x : UInt8, (x.toNat = 191) = (x = 191) := fun x => propext ⟨fun h => UInt8.toNat_inj.1 h, fun h => by rw [h]; rfl⟩
  have k2 : ∀ x : UInt8, (x.toNat = 189) = (x = 189) := fun x => propext ⟨fun h => UInt8.toNat_inj.1 h, fun h => by rw [h]; rfl⟩
  match l with
  | [] => simp
  | [a] => simp
  | [a, b] => simp
  | a :: b :: c :: r => simp [k0, k1, k2]
set_option maxHeartbeats 4000000 in
theorem decN_shape (n x y z t : Nat) (hn : 0 < n) (hb : x < 256) (hb1 : y < 256) (hb2 : z < 256) (hb3 : t < 256) :
    (Lib.decodeN n x y z t = (65533, 1) ∧ ¬ (3 ≤ n ∧ x = 239 ∧ y = 191 ∧ z = 189)) ∨
    (Lib.decodeN n x y z t ≠ (65533, 1) ∧ runeLenF (Lib.decodeN n x y z t).1 = (Lib.decodeN n x y z t).2 ∧ ((Lib.decodeN n x y z t).1 = 65533 → (3 ≤ n ∧ x = 239 ∧ y = 191 ∧ z = 189))) := by
  have nope : ∀ a b : Nat, (a ≠ 65533 ∨ b ≠ 1) → (a, b) ≠ (65533, 1) := fun a b h e => by
    rw [Prod.mk.injEq] at e
    omega
  unfold Lib.decodeN
  repeat' split
  all_goals first
    | exact .inl ⟨rfl, by omega⟩
    | (refine .inr ⟨nope _ _ (by omega), ?_, fun h => by simp only at h; omega⟩
       unfold runeLenF
       simp only
       repeat' split
       all_goals omega)
/-- What the program decodes is what the model's decode finds. -/
theorem decF_good (s : ByteArray) (h : 0 < s.size) : decF s = goodN (Utf8.decode s 0) := by
  unfold decF
  rw [if_neg (by omega), hasPF_eq, Lib.decode_at]
  simp only [get!_byteN, decide_eq_false_iff_not, Nat.zero_add]
  have sh := decN_shape (s.size - 0) (byteN s 0) (byteN s 1) (byteN s 2) (byteN s 3) (by omega) (byteN_lt s 0) (byteN_lt s 1) (byteN_lt s 2) (byteN_lt s 3)
  generalize Lib.decodeN (s.size - 0) (byteN s 0) (byteN s 1) (byteN s 2) (byteN s 3) = r at *
  unfold goodN
  rcases sh with ⟨rfl, h2⟩ | ⟨h1, h2, h3⟩
  · rw [if_pos rfl, if_pos ⟨rfl, by omega⟩]
  · rw [if_neg h1, if_neg (by rintro ⟨h4, h5⟩; exact h5 (by have := h3 (by omega); omega)), h2]
theorem decF_nil (s : ByteArray) (h : s.size = 0) : decF s = (-1, 0) := by unfold decF; rw [if_pos h]
set_option maxHeartbeats 4000000 in
theorem decodes_ok (s : ByteArray) (hs : s.size ≤ 140737488351232) : Ok Try.prog 5 [vS s] (vB true) := by
  have d := decode_ok0 s hs
  refine Ok.of_pwp (by kernel_rfl) Try.func5 rfl (by kernel_rfl) (by kernel_rfl) ?_
  simp (implicitDefEqProofs := false) (disch := omega) only [go_sem, reduceCtorEq, Nat.reduceEqDiff, Nat.reduceBEq, ↓reduceIte, Nat.reduceGT, Nat.reduceAdd, Int.reduceEq, Int.reduceLT, Int.reduceLE, Int.reduceNeg, Int.reduceAdd, Int.reduceSub, Int.reduceMul, Int.reduceDiv, Int.reduceMod, Nat.reduceLT, Nat.reduceLeDiff, Nat.reduceMul, Nat.reduceSub, Int.reduceToNat, go_sem, ↓ix_enc, encI_len, encI_take, Nat.le_refl, Try.results5]
  with_reducible refine CallOk.of awake_ok rfl ?_
  simp (implicitDefEqProofs := false) (disch := omega) only [go_sem, reduceCtorEq, Nat.reduceEqDiff, Nat.reduceBEq, ↓reduceIte, Nat.reduceGT, Nat.reduceAdd, Int.reduceEq, Int.reduceLT, Int.reduceLE, Int.reduceNeg, Int.reduceAdd, Int.reduceSub, Int.reduceMul, Int.reduceDiv, Int.reduceMod, Nat.reduceLT, Nat.reduceLeDiff, Nat.reduceMul, Nat.reduceSub, Int.reduceToNat, go_sem, ↓ix_enc, encI_len, encI_take, Nat.le_refl, Try.results5]
  by_cases h100 : s.size ≤ 100
  · by_cases h0 : s.size = 0
    · rw [decF_nil s h0] at d
      simp (implicitDefEqProofs := false) (disch := omega) only [go_sem, reduceCtorEq, Nat.reduceEqDiff, Nat.reduceBEq, ↓reduceIte, Nat.reduceGT, Nat.reduceAdd, Int.reduceEq, Int.reduceLT, Int.reduceLE, Int.reduceNeg, Int.reduceAdd, Int.reduceSub, Int.reduceMul, Int.reduceDiv, Int.reduceMod, Nat.reduceLT, Nat.reduceLeDiff, Nat.reduceMul, Nat.reduceSub, Int.reduceToNat, go_sem, ↓ix_enc, encI_len, encI_take, Nat.le_refl, Try.results5]
      with_reducible refine CallOk.of d rfl ?_
      simp (implicitDefEqProofs := false) (disch := omega) only [go_sem, reduceCtorEq, Nat.reduceEqDiff, Nat.reduceBEq, ↓reduceIte, Nat.reduceGT, Nat.reduceAdd, Int.reduceEq, Int.reduceLT, Int.reduceLE, Int.reduceNeg, Int.reduceAdd, Int.reduceSub, Int.reduceMul, Int.reduceDiv, Int.reduceMod, Nat.reduceLT, Nat.reduceLeDiff, Nat.reduceMul, Nat.reduceSub, Int.reduceToNat, go_sem, ↓ix_enc, encI_len, encI_take, Nat.le_refl, Try.results5]
    · have f := first_ok s 0 (by omega) (by omega) hs
      have e := first_decode s 0 (by omega)
      simp only [Int.natCast_zero] at e
      rw [e, ← decF_good s (by omega)] at f
      simp (implicitDefEqProofs := false) (disch := omega) only [go_sem, reduceCtorEq, Nat.reduceEqDiff, Nat.reduceBEq, ↓reduceIte, Nat.reduceGT, Nat.reduceAdd, Int.reduceEq, Int.reduceLT, Int.reduceLE, Int.reduceNeg, Int.reduceAdd, Int.reduceSub, Int.reduceMul, Int.reduceDiv, Int.reduceMod, Nat.reduceLT, Nat.reduceLeDiff, Nat.reduceMul, Nat.reduceSub, Int.reduceToNat, go_sem, ↓ix_enc, encI_len, encI_take, Nat.le_refl, Try.results5]
      with_reducible refine CallOk.of d rfl ?_
      simp (implicitDefEqProofs := false) (disch := omega) only [go_sem, reduceCtorEq, Nat.reduceEqDiff, Nat.reduceBEq, ↓reduceIte, Nat.reduceGT, Nat.reduceAdd, Int.reduceEq, Int.reduceLT, Int.reduceLE, Int.reduceNeg, Int.reduceAdd, Int.reduceSub, Int.reduceMul, Int.reduceDiv, Int.reduceMod, Nat.reduceLT, Nat.reduceLeDiff, Nat.reduceMul, Nat.reduceSub, Int.reduceToNat, go_sem, ↓ix_enc, encI_len, encI_take, Nat.le_refl, Try.results5]
      with_reducible refine CallOk.of f rfl ?_
      simp (implicitDefEqProofs := false) (disch := omega) only [go_sem, reduceCtorEq, Nat.reduceEqDiff, Nat.reduceBEq, ↓reduceIte, Nat.reduceGT, Nat.reduceAdd, Int.reduceEq, Int.reduceLT, Int.reduceLE, Int.reduceNeg, Int.reduceAdd, Int.reduceSub, Int.reduceMul, Int.reduceDiv, Int.reduceMod, Nat.reduceLT, Nat.reduceLeDiff, Nat.reduceMul, Nat.reduceSub, Int.reduceToNat, go_sem, ↓ix_enc, encI_len, encI_take, Nat.le_refl, Try.results5]
  · simp (implicitDefEqProofs := false) (disch := omega) only [go_sem, reduceCtorEq, Nat.reduceEqDiff, Nat.reduceBEq, ↓reduceIte, Nat.reduceGT, Nat.reduceAdd, Int.reduceEq, Int.reduceLT, Int.reduceLE, Int.reduceNeg, Int.reduceAdd, Int.reduceSub, Int.reduceMul, Int.reduceDiv, Int.reduceMod, Nat.reduceLT, Nat.reduceLeDiff, Nat.reduceMul, Nat.reduceSub, Int.reduceToNat, go_sem, ↓ix_enc, encI_len, encI_take, Nat.le_refl, Try.results5]
    with_reducible refine CallOk.of awake_ok rfl ?_
    simp (implicitDefEqProofs := false) (disch := omega) only [go_sem, reduceCtorEq, Nat.reduceEqDiff, Nat.reduceBEq, ↓reduceIte, Nat.reduceGT, Nat.reduceAdd, Int.reduceEq, Int.reduceLT, Int.reduceLE, Int.reduceNeg, Int.reduceAdd, Int.reduceSub, Int.reduceMul, Int.reduceDiv, Int.reduceMod, Nat.reduceLT, Nat.reduceLeDiff, Nat.reduceMul, Nat.reduceSub, Int.reduceToNat, go_sem, ↓ix_enc, encI_len, encI_take, Nat.le_refl, Try.results5]
end Go.Proofs.Ytfhdokpcnkpcpaa
