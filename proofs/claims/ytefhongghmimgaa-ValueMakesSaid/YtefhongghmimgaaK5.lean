/-
  Contracts and plain laws on the way to the statement; each says its own conditions.
-/

import Derived.Test.YtefhongghmimgaaK3
open Go Go.Proofs Go.Pw
namespace Go.Proofs.Ytefhongghmimgaa
set_option maxRecDepth 4000
set_option linter.unusedVariables false
set_option linter.unusedSimpArgs false
theorem hasPF_eq (s : ByteArray) : hasPF s ⟨#[239, 191, 189]⟩ = decide (3 ≤ s.size ∧ byteN s 0 = 239 ∧ byteN s 1 = 191 ∧ byteN s 2 = 189) := by
  have e : ∀ (p : ByteArray), (s.extract 0 p.size = p) = ((s.data.toList.take p.size) = p.data.toList) := fun p => by
    rw [← str_eq]
    simp
  unfold hasPF byteN
  rw [Bool.eq_iff_iff]
  simp only [Bool.and_eq_true, decide_eq_true_eq]
  rw [e]
  rw [show (⟨#[239, 191, 189]⟩ : ByteArray).size = 3 from rfl, show (⟨#[239, 191, 189]⟩ : ByteArray).data.toList = [239, 191, 189] from rfl]
  have hsz : s.size = s.data.toList.length := (Array.length_toList).symm
  rw [hsz]
  generalize s.data.toList = l
  have k0 : ∀ x : UInt8, (x.toNat = 239) = (x = 239) := fun x => propext ⟨fun h => UInt8.toNat_inj.1 h, fun h => by rw [h]; rfl⟩
  have k1 : ∀ x : UInt8, (x.toNat = 191) = (x = 191) := fun x => propext ⟨fun h => UInt8.toNat_inj.1 h, fun h => by rw [h]; rfl⟩
  have k2 : ∀ x : UInt8, (x.toNat = 189) = (x = 189) := fun x => propext ⟨fun h => UInt8.toNat_inj.1 h, fun h => by rw [h]; rfl⟩
  match l with
  | [] => simp
  | [a] => simp
  | [a, b] => simp
  | a :: b :: c :: r => simp [k0, k1, k2]
set_option maxHeartbeats 4000000 in
theorem decN_shape (n x y z t : Nat) (hn : 0 < n) (hb : x < 256) (hb1 : y < 256) (hb2 : z < 256) (hb3 : t < 256) :
    (Lib.decodeN n x y z t = (65533, 1) ∧ ¬ (3 ≤ n ∧ x = 239 ∧ y = 191 ∧ z = 189)) ∨
    (Lib.decodeN n x y z t ≠ (65533, 1) ∧ runeLenF (Lib.decodeN n x y z t).1 = (Lib.decodeN n x y z t).2 ∧ ((Lib.decodeN n x y z t).1 = 65533 → (3 ≤ n ∧ x = 239 ∧ y = 191 ∧ z = 189))) := by
  have nope : ∀ a b : Nat, (a ≠ 65533 ∨ b ≠ 1) → (a, b) ≠ (65533, 1) := fun a b h e => by
    rw [Prod.mk.injEq] at e
    omega
  unfold Lib.decodeN
  repeat' split
  all_goals first
    | exact .inl ⟨rfl, by omega⟩
    | (refine .inr ⟨nope _ _ (by omega), ?_, fun h => by simp only at h; omega⟩
       unfold runeLenF
       simp only
       repeat' split
       all_goals omega)
/-- What the program decodes is what the model's decode finds. -/
theorem decF_good (s : ByteArray) (h : 0 < s.size) : decF s = goodN (Utf8.decode s 0) := by
  unfold decF
  rw [if_neg (by omega), hasPF_eq, Lib.decode_at]
  simp only [get!_byteN, decide_eq_false_iff_not, Nat.zero_add]
  have sh := decN_shape (s.size - 0) (byteN s 0) (byteN s 1) (byteN s 2) (byteN s 3) (by omega) (byteN_lt s 0) (byteN_lt s 1) (byteN_lt s 2) (byteN_lt s 3)
  generalize Lib.decodeN (s.size - 0) (byteN s 0) (byteN s 1) (byteN s 2) (byteN s 3) = r at *
  unfold goodN
  rcases sh with ⟨rfl, h2⟩ | ⟨h1, h2, h3⟩
  · rw [if_pos rfl, if_pos ⟨rfl, by omega⟩]
  · rw [if_neg h1, if_neg (by rintro ⟨h4, h5⟩; exact h5 (by have := h3 (by omega); omega)), h2]
theorem decF_nil (s : ByteArray) (h : s.size = 0) : decF s = (-1, 0) := by unfold decF; rw [if_pos h]
end Go.Proofs.Ytefhongghmimgaa
