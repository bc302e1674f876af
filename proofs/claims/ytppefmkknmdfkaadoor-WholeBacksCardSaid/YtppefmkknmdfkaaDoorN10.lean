/-
  Contracts and plain laws on the way to the statement; each says its own conditions.
-/

import Derived.Test.YtppefmkknmdfkaaDoorN9
open Go Go.Proofs Go.Pw
namespace Go.Proofs.YtppefmkknmdfkaaDoor
set_option maxRecDepth 4000
set_option linter.unusedSimpArgs false
set_option linter.unusedVariables false
theorem pow_pos' (k : Nat) : (0 : Int) < 10000 ^ k := Int.pow_pos (by decide)
theorem valF_lt : ∀ {l : List Int}, Digs l → valF l < 10000 ^ l.length
  | [], _ => by decide
  | x :: r, h => by
    have h1 := h x (by simp)
    have ih := valF_lt (l := r) (fun y hy => h y (by simp [hy]))
    rw [valF, List.length_cons, Int.pow_succ]
    omega
theorem valF_app : ∀ (l : List Int) (x : Int), valF (l ++ [x]) = valF l + 10000 ^ l.length * x
  | [], x => by simp [valF]
  | y :: r, x => by
    rw [List.cons_append, valF, valF, valF_app r x, List.length_cons, Int.pow_succ, Int.mul_comm (10000 ^ r.length) 10000, Int.mul_assoc]
    omega
theorem pow_le' {j k : Nat} (h : j ≤ k) : (10000 : Int) ^ j ≤ 10000 ^ k := by
  obtain ⟨d, rfl⟩ := Nat.exists_eq_add_of_le h
  induction d with
  | zero => exact Int.le_refl _
  | succ d ih =>
    have := ih (by omega)
    have := pow_pos' (j + d)
    rw [← Nat.add_assoc, Int.pow_succ]
    omega
theorem bothF_add {a b : List Int} (hA : Digs a) (hB : Digs b) : valF (bothF a b 1) = valF a + valF b ∧ Digs (bothF a b 1) := by
  have hv := bothG_val a b 1 (max a.length b.length) 0 0 (by omega) (by omega)
  have hd := bothG_digs a b 1 (.inl rfl) hA hB (max a.length b.length) 0 0 (by decide) (by decide)
  have hl := bothG_len a b 1 (max a.length b.length) 0 0
  have hlt := valF_lt hd.1
  rw [hl] at hlt
  have nA := valF_nonneg hA
  have nB := valF_nonneg hB
  simp only [List.drop_zero, Int.one_mul, Int.zero_add] at hv
  unfold bothF
  generalize bothG a b 1 (max a.length b.length) 0 0 = r at *
  obtain ⟨l, c⟩ := r
  simp only at *
  have hc : c = -1 ∨ c = 0 ∨ c = 1 := by omega
  rcases hc with rfl | rfl | rfl
  · omega
  · rw [if_neg (by decide)]
    exact ⟨by omega, hd.1⟩
  · rw [if_pos (by decide), valF_app, hl]
    refine ⟨by omega, fun x hx => ?_⟩
    rcases List.mem_append.1 hx with hx | hx
    · exact hd.1 x hx
    · obtain rfl := List.mem_singleton.1 hx
      decide
theorem bothF_sub {a b : List Int} (hA : Digs a) (hB : Digs b) (h : valF b ≤ valF a) : valF (bothF a b (-1)) = valF a - valF b ∧ Digs (bothF a b (-1)) := by
  have hv := bothG_val a b (-1) (max a.length b.length) 0 0 (by omega) (by omega)
  have hd := bothG_digs a b (-1) (.inr rfl) hA hB (max a.length b.length) 0 0 (by decide) (by decide)
  have hl := bothG_len a b (-1) (max a.length b.length) 0 0
  have hlt := valF_lt hd.1
  rw [hl] at hlt
  have nD := valF_nonneg hd.1
  have nB := valF_nonneg hB
  have la := valF_lt hA
  have lp : (10000 : Int) ^ a.length ≤ 10000 ^ (max a.length b.length) := pow_le' (by omega)
  simp only [List.drop_zero, Int.zero_add] at hv
  unfold bothF
  generalize bothG a b (-1) (max a.length b.length) 0 0 = r at *
  obtain ⟨l, c⟩ := r
  simp only at *
  have hc : c = -1 ∨ c = 0 ∨ c = 1 := by omega
  rcases hc with rfl | rfl | rfl
  · omega
  · rw [if_neg (by decide)]
    exact ⟨by omega, hd.1⟩
  · omega
end Go.Proofs.YtppefmkknmdfkaaDoor
