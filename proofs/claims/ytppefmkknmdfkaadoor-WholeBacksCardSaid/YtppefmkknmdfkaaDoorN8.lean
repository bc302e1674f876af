/-
  Contracts and plain laws on the way to the statement; each says its own conditions.
-/

import Derived.Test.YtppefmkknmdfkaaDoorN7
open Go Go.Proofs Go.Pw
namespace Go.Proofs.YtppefmkknmdfkaaDoor
set_option maxRecDepth 4000
set_option linter.unusedSimpArgs false
set_option linter.unusedVariables false
def valF : List Int → Int
  | [] => 0
  | x :: r => x + 10000 * valF r
theorem figs_zero : figs 0 = [] := by rw [figs]; simp
theorem figs_val (n : Nat) : valF (figs n) = n := by
  induction n using Nat.strongRecOn with
  | _ n ih =>
    by_cases h : n = 0
    · subst h; rw [figs_zero]; rfl
    · rw [figs_step n h, valF, ih (n / 10000) (by omega)]
      omega
theorem figs_digs (n : Nat) : Digs (figs n) := by
  induction n using Nat.strongRecOn with
  | _ n ih =>
    by_cases h : n = 0
    · subst h; rw [figs_zero]; intro x hx; cases hx
    · rw [figs_step n h]
      intro x hx
      rcases List.mem_cons.1 hx with rfl | hx
      · omega
      · exact ih (n / 10000) (by omega) x hx
theorem valF_nonneg : ∀ {l : List Int}, Digs l → 0 ≤ valF l
  | [], _ => by decide
  | x :: r, h => by
    have h1 := h x (by simp)
    have h2 := valF_nonneg (l := r) (fun y hy => h y (by simp [hy]))
    rw [valF]
    omega
theorem cleanTo_cons (x : Int) (r : List Int) : ∀ k, cleanTo (x :: r) (k + 1) = if cleanTo r k = 0 then (if x = 0 then 0 else 1) else cleanTo r k + 1
  | 0 => by simp [cleanTo]
  | k + 1 => by
    have ih := cleanTo_cons x r k
    rw [cleanTo]
    by_cases h : r.getD k 0 = 0
    · have h' : (x :: r).getD (k + 1) 0 = 0 := by simpa using h
      rw [if_pos h', ih]
      simp only [cleanTo, if_pos h]
    · have h' : ¬(x :: r).getD (k + 1) 0 = 0 := by simpa using h
      rw [if_neg h']
      simp only [cleanTo, if_neg h]
      simp
theorem canon : ∀ {l : List Int}, Digs l → figs (valF l).toNat = l.take (cleanTo l l.length)
  | [], _ => by simp [valF, figs_zero]
  | x :: r, h => by
    have h1 := h x (by simp)
    have hr : Digs r := fun y hy => h y (by simp [hy])
    have h2 := valF_nonneg hr
    have ih := canon hr
    rw [List.length_cons, cleanTo_cons, valF]
    have z : cleanTo r r.length = 0 ↔ valF r = 0 := by
      constructor
      · intro e
        rw [e] at ih
        have := figs_val (valF r).toNat
        rw [ih] at this
        simp [valF] at this
        omega
      · intro e
        rw [e] at ih
        simp only [Int.toNat_zero, figs_zero] at ih
        have hlen := congrArg List.length ih
        rw [List.length_take] at hlen
        have hle : ∀ k, cleanTo r k ≤ k := fun k => by
          induction k with
          | zero => exact Nat.le_refl _
          | succ k ih => rw [cleanTo]; split <;> omega
        have := hle r.length
        simp at hlen
        omega
    by_cases hv : valF r = 0
    · rw [if_pos (z.2 hv), hv]
      by_cases hx : x = 0
      · subst hx; simp [figs_zero]
      · rw [if_neg hx, figs_step _ (by omega)]
        simp only [Int.mul_zero, Int.add_zero, List.take_succ_cons, List.take_zero]
        rw [show x.toNat / 10000 = 0 by omega, figs_zero, show ((x.toNat % 10000 : Nat) : Int) = x by omega]
    · rw [if_neg (fun e => hv (z.1 e)), figs_step _ (by omega), List.take_succ_cons, ← ih]
      rw [show (((x + 10000 * valF r).toNat % 10000 : Nat) : Int) = x by omega, show (x + 10000 * valF r).toNat / 10000 = (valF r).toNat by omega]
end Go.Proofs.YtppefmkknmdfkaaDoor
