/-
  Contracts and plain laws on the way to the statement; each says its own conditions.
-/

import Derived.Test.YtppefmkknmdfkaaDoorN8
open Go Go.Proofs Go.Pw
namespace Go.Proofs.YtppefmkknmdfkaaDoor
set_option maxRecDepth 4000
set_option linter.unusedSimpArgs false
set_option linter.unusedVariables false
theorem valF_drop (a : List Int) (i : Nat) : valF (a.drop i) = a.getD i 0 + 10000 * valF (a.drop (i + 1)) := by
  by_cases h : i < a.length
  · rw [List.drop_eq_getElem_cons h, valF, List.getD_eq_getElem?_getD, List.getElem?_eq_getElem h]; rfl
  · rw [List.drop_eq_nil_of_le (by omega), List.drop_eq_nil_of_le (by omega), getD_none (by omega)]; rfl
theorem carry_val (f : Int) : (carry f).1 + 10000 * (carry f).2 = f := by
  unfold carry
  split
  · simp only; omega
  · split <;> (simp only; omega)
theorem carry_dig (f : Int) (h : -10000 ≤ f) (h' : f ≤ 19999) : 0 ≤ (carry f).1 ∧ (carry f).1 ≤ 9999 := by
  unfold carry
  split
  · simp only; omega
  · split <;> (simp only; omega)
theorem bothG_val (a b : List Int) (s : Int) : ∀ (k i : Nat) (o : Int), a.length ≤ i + k → b.length ≤ i + k →
    valF (bothG a b s k i o).1 + 10000 ^ k * (bothG a b s k i o).2 = o + valF (a.drop i) + s * valF (b.drop i)
  | 0, i, o, ha, hb => by
    rw [List.drop_eq_nil_of_le (by omega), List.drop_eq_nil_of_le (by omega)]
    simp [bothG, valF]
  | k + 1, i, o, ha, hb => by
    have ih := bothG_val a b s k (i + 1) (carry (o + a.getD i 0 + s * b.getD i 0)).2 (by omega) (by omega)
    have hc := carry_val (o + a.getD i 0 + s * b.getD i 0)
    rw [valF_drop a i, valF_drop b i]
    simp only [bothG, valF]
    generalize bothG a b s k (i + 1) (carry (o + a.getD i 0 + s * b.getD i 0)).2 = r at *
    have e1 : (10000 : Int) ^ (k + 1) * r.2 = 10000 * (10000 ^ k * r.2) := by rw [Int.pow_succ, Int.mul_comm (10000 ^ k) 10000, Int.mul_assoc]
    have e2 : s * (b.getD i 0 + 10000 * valF (b.drop (i + 1))) = s * b.getD i 0 + 10000 * (s * valF (b.drop (i + 1))) := by
      rw [Int.mul_add, ← Int.mul_assoc, Int.mul_comm s 10000, Int.mul_assoc]
    rw [e1, e2]
    omega
theorem bothG_digs (a b : List Int) (s : Int) (hs : s = 1 ∨ s = -1) (hA : Digs a) (hB : Digs b) : ∀ (k i : Nat) (o : Int), -1 ≤ o → o ≤ 1 → Digs (bothG a b s k i o).1 ∧ -1 ≤ (bothG a b s k i o).2 ∧ (bothG a b s k i o).2 ≤ 1
  | 0, i, o, h1, h2 => ⟨fun x hx => by simp [bothG] at hx, h1, h2⟩
  | k + 1, i, o, h1, h2 => by
    have cr := carry_range (o + a.getD i 0 + s * b.getD i 0)
    have ih := bothG_digs a b s hs hA hB k (i + 1) _ cr.1 cr.2
    have gA := hA.get i
    have gB := hB.get i
    have cd := carry_dig (o + a.getD i 0 + s * b.getD i 0) (by rcases hs with rfl | rfl <;> omega) (by rcases hs with rfl | rfl <;> omega)
    refine ⟨fun x hx => ?_, ih.2.1, ih.2.2⟩
    simp only [bothG] at hx
    rcases List.mem_cons.1 hx with rfl | hx
    · exact cd
    · exact ih.1 x hx
end Go.Proofs.YtppefmkknmdfkaaDoor
