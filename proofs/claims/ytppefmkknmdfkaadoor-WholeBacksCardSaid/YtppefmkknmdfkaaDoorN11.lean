/-
  Contracts and plain laws on the way to the statement; each says its own conditions.
-/

import Derived.Test.YtppefmkknmdfkaaDoorN10
open Go Go.Proofs Go.Pw
namespace Go.Proofs.YtppefmkknmdfkaaDoor
set_option maxRecDepth 4000
set_option linter.unusedSimpArgs false
set_option linter.unusedVariables false
theorem Digs.take {a : List Int} (h : Digs a) (k : Nat) : Digs (a.take k) := fun x hx => h x (List.mem_of_mem_take hx)
theorem take_snoc {a : List Int} {k : Nat} (h : k < a.length) : a.take (k + 1) = a.take k ++ [a.getD k 0] := by
  rw [List.take_succ_eq_append_getElem h, List.getD_eq_getElem?_getD, List.getElem?_eq_getElem h]; rfl
theorem top_lt {p x y u v : Int} (hu : 0 ≤ u) (hu' : u < p) (hv : 0 ≤ v) (hv' : v < p) (h : x < y) : u + p * x < v + p * y := by
  have h1 : p * (x + 1) ≤ p * y := Int.mul_le_mul_of_nonneg_left (by omega) (by omega)
  rw [Int.mul_add, Int.mul_one] at h1
  omega
theorem lessTo_val {a b : List Int} (hA : Digs a) (hB : Digs b) : ∀ k, k ≤ a.length → k ≤ b.length → lessTo a b k = decide (valF (a.take k) < valF (b.take k))
  | 0, _, _ => by simp [lessTo, valF]
  | k + 1, ha, hb => by
    have ih := lessTo_val hA hB k (by omega) (by omega)
    have la := valF_lt (hA.take k)
    have lb := valF_lt (hB.take k)
    have na := valF_nonneg (hA.take k)
    have nb := valF_nonneg (hB.take k)
    rw [take_snoc (by omega), take_snoc (by omega), valF_app, valF_app]
    rw [List.length_take, Nat.min_eq_left (by omega)] at la lb ⊢
    rw [List.length_take, Nat.min_eq_left (by omega)]
    simp only [lessTo]
    by_cases h : a.getD k 0 = b.getD k 0
    · rw [if_neg (by simpa using h), ih, h]
      exact decide_eq_decide.2 (by omega)
    · rw [if_pos h]
      refine decide_eq_decide.2 ⟨fun h1 => top_lt na la nb lb h1, fun h1 => ?_⟩
      rcases Int.lt_or_gt_of_ne h with h2 | h2
      · exact h2
      · have := top_lt nb lb na la h2
        omega
theorem figs_len_ge (n : Nat) (h : n ≠ 0) : (10000 : Int) ^ ((figs n).length - 1) ≤ n := by
  induction n using Nat.strongRecOn with
  | _ n ih =>
    rw [figs_step n h, List.length_cons]
    by_cases h' : n / 10000 = 0
    · rw [h', figs_zero]; simp; omega
    · have := ih (n / 10000) (by omega) h'
      have hl : (figs (n / 10000)).length ≠ 0 := by rw [figs_step _ h']; simp
      rw [show (figs (n / 10000)).length + 1 - 1 = ((figs (n / 10000)).length - 1) + 1 by omega, Int.pow_succ]
      omega
theorem lessF_figs (m n : Nat) : lessF (figs m) (figs n) = decide (m < n) := by
  have lm := valF_lt (figs_digs m)
  have ln := valF_lt (figs_digs n)
  rw [figs_val] at lm ln
  unfold lessF
  by_cases h : (figs m).length = (figs n).length
  · rw [if_neg (by simpa using h), lessTo_val (figs_digs m) (figs_digs n) _ (Nat.le_refl _) (by omega), List.take_length, h, List.take_length, figs_val, figs_val]
    exact decide_eq_decide.2 (by omega)
  · rw [if_pos h]
    refine decide_eq_decide.2 ⟨fun h1 => ?_, fun h1 => ?_⟩
    · have hn : n ≠ 0 := fun e => by subst e; rw [figs_zero] at h1; simp at h1
      have g := figs_len_ge n hn
      have p := pow_le' (j := (figs m).length) (k := (figs n).length - 1) (by omega)
      omega
    · apply Decidable.byContradiction
      intro h2
      have hm : m ≠ 0 := fun e => by
        have e2 : (figs m).length = 0 := by rw [e, figs_zero]; rfl
        omega
      have g := figs_len_ge m hm
      have p := pow_le' (j := (figs n).length) (k := (figs m).length - 1) (by omega)
      omega
end Go.Proofs.YtppefmkknmdfkaaDoor
