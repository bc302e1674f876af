import Derived.Test.YtmfaejdnaippkaaDoorGS4
import Derived.Lib.ParseIntB
section
/-
  Contracts and plain laws on the way to the statement; each says its own conditions.
-/

open Go Go.Proofs Go.Pw
namespace Go.Proofs.YtmfaejdnaippkaaDoor
set_option maxRecDepth 4000
set_option linter.unusedSimpArgs false
set_option linter.unusedVariables false
end Go.Proofs.YtmfaejdnaippkaaDoor

end
section
/-
  Contracts and plain laws on the way to the statement; each says its own conditions.
-/

open Go Go.Proofs Go.Pw
namespace Go.Proofs.YtmfaejdnaippkaaDoor
set_option maxRecDepth 4000
set_option linter.unusedSimpArgs false
set_option linter.unusedVariables false
end Go.Proofs.YtmfaejdnaippkaaDoor

end
section
/-
  Contracts and plain laws on the way to the statement; each says its own conditions.
-/
open Go Go.Proofs Go.Pw
namespace Go.Proofs.YtmfaejdnaippkaaDoor
set_option maxRecDepth 4000
set_option linter.unusedSimpArgs false
set_option linter.unusedVariables false
def figs (n : Nat) : List Int := if h : n = 0 then [] else (n % 10000 : Nat) :: figs (n / 10000)
def repN (z : Int) : PV := .agg [vB (decide (z < 0)), .sl (encI (figs z.natAbs))]
theorem figs_len : ∀ (k N : Nat), N < 10000 ^ k → (figs N).length ≤ k
  | 0, N, h => by
    have : N = 0 := by simpa using h
    subst this
    unfold figs
    simp
  | k + 1, N, h => by
    unfold figs
    split
    · simp
    · have := figs_len k (N / 10000) (by rw [Nat.pow_succ] at h; omega)
      simp only [List.length_cons]
      omega
theorem figs_step (N : Nat) (h : N ≠ 0) : figs N = ((N % 10000 : Nat) : Int) :: figs (N / 10000) := by
  rw [figs, dif_neg h]
def ofS (below : Bool) (m : Int) : List Int → PS
  | [] => ⟨[(0, vI m), (2, .ptr 0 0), (3, .ptr 4 0)], [(4, .box 101 [vB below, .val (.slice none 0 0)]), (0, .box 101 [vB false, .val (.slice none 0 0)])], [], 5, 6⟩
  | x :: r => ⟨[(0, vI m), (2, .ptr 0 0), (3, .ptr 4 0)], [(4, .box 101 [vB below, .row 18 (encI (x :: r))]), (0, .box 101 [vB false, .val (.slice none 0 0)])], [(18, ⟨3, 1, (x :: r).length⟩)], 5, 19⟩
theorem of_dig (m : Int) (h : -9223372036854775808 ≤ m) (h' : m ≤ 9223372036854775807) : (if IntKind.i64.wrap (0 - m.tmod 10000) > m.tmod 10000 then IntKind.i64.wrap (0 - m.tmod 10000) else m.tmod 10000) = ((m.natAbs % 10000 : Nat) : Int) := by
  have : m.tmod 10000 = if 0 ≤ m then m % 10000 else -((-m) % 10000) := by
    split
    · exact Int.tmod_eq_emod_of_nonneg (by assumption)
    · rw [← Int.tmod_eq_emod_of_nonneg (by omega), Int.neg_tmod]; omega
  rw [this]
  split <;> rw [wrap64 (by omega) (by omega)] <;> omega
theorem of_div (m : Int) : (m.tdiv 10000).natAbs = m.natAbs / 10000 := by
  rw [Int.natAbs_tdiv]; rfl
set_option maxHeartbeats 1000000 in
theorem of_ok (n : Int) (h1 : -9223372036854775808 ≤ n) (h2 : n ≤ 9223372036854775807) : Ok Tryd.prog 60 [vI n] (repN n) := by
  refine Ok.of_pwp (by kernel_rfl) Tryd.func60 rfl (by kernel_rfl) (by kernel_rfl) ?_
  have hl : (figs n.natAbs).length ≤ 5 := figs_len 5 _ (by omega)
  simp (implicitDefEqProofs := false) (disch := omega) only [go_sem, simprocAttr, go_sem, Nat.le_refl, ↓ix_enc, encI_len, encI_take, Tryd.results60, tmodE, tdivE]
  refine p_loop (ι := { p : Int × List Int // -9223372036854775808 ≤ p.1 ∧ p.1 ≤ 9223372036854775807 ∧ figs n.natAbs = p.2 ++ figs p.1.natAbs }) (fun p => ofS (decide (n < 0)) p.1.1 p.1.2) (fun p => p.1.1.natAbs)
      ⟨(n, []), h1, h2, rfl⟩ ?_ ?_
  · simp only [ofS]
    refine ⟨?_, ?_, ?_, ?_, ?_, ?_, ?_⟩ <;> simp only [go_sem, simprocAttr]
  · rintro ⟨⟨m, xs⟩, k1, k2, k3⟩
    simp only at k1 k2 k3
    have hlen := congrArg List.length k3
    rw [List.length_append] at hlen
    have hq := of_div m
    have hw : IntKind.i64.wrap (m.tdiv 10000) = m.tdiv 10000 := wrap64 (by omega) (by omega)
    cases xs with
    | nil =>
      simp only [ofS]
      simp (implicitDefEqProofs := false) (disch := omega) only [go_sem, simprocAttr, go_sem, Nat.le_refl, ↓ix_enc, encI_len, encI_take, Tryd.results60, tmodE, tdivE]
      with_reducible refine ifK_nsplit (fun hne => ?_) (fun heq => ?_)
      · simp (implicitDefEqProofs := false) (disch := omega) only [go_sem, simprocAttr, go_sem, Nat.le_refl, ↓ix_enc, encI_len, encI_take, Tryd.results60, tmodE, tdivE]
        simp only [of_dig m k1 k2, hw, encI_one]
        refine ⟨⟨(m.tdiv 10000, [((m.natAbs % 10000 : Nat) : Int)]), by simp only []; omega, by simp only []; omega, ?_⟩, by simp only []; omega, ?_⟩
        · rw [k3, figs_step m.natAbs (by omega), hq]; rfl
        · simp only [List.length_nil, Nat.zero_add]
          refine ⟨?_, ?_, ?_, ?_, ?_, ?_, ?_⟩ <;> simp only [go_sem, simprocAttr]
      · simp (implicitDefEqProofs := false) (disch := omega) only [go_sem, simprocAttr, go_sem, Nat.le_refl, ↓ix_enc, encI_len, encI_take, Tryd.results60, tmodE, tdivE]
        subst heq
        rw [repN, k3]
        simp [figs, encI]
    | cons x r =>
      simp only [List.length_cons] at hlen
      simp only [ofS]
      simp (implicitDefEqProofs := false) (disch := omega) only [go_sem, simprocAttr, go_sem, Nat.le_refl, ↓ix_enc, encI_len, encI_take, Tryd.results60, tmodE, tdivE]
      with_reducible refine ifK_nsplit (fun hne => ?_) (fun heq => ?_)
      · simp (implicitDefEqProofs := false) (disch := omega) only [go_sem, simprocAttr, go_sem, Nat.le_refl, ↓ix_enc, encI_len, encI_take, Tryd.results60, tmodE, tdivE]
        simp only [of_dig m k1 k2, hw, encI_one, encI_app, List.cons_append]
        refine ⟨⟨(m.tdiv 10000, (x :: r) ++ [((m.natAbs % 10000 : Nat) : Int)]), by simp only []; omega, by simp only []; omega, ?_⟩, by simp only []; omega, ?_⟩
        · rw [k3, figs_step m.natAbs (by omega), hq]; simp
        · simp only [List.cons_append, List.length_append, List.length_singleton]
          refine ⟨?_, ?_, ?_, ?_, ?_, ?_, ?_⟩ <;> simp only [go_sem, simprocAttr]
      · simp (implicitDefEqProofs := false) (disch := omega) only [go_sem, simprocAttr, go_sem, Nat.le_refl, ↓ix_enc, encI_len, encI_take, Tryd.results60, tmodE, tdivE]
        subst heq
        rw [repN, k3]
        simp [figs]
def fits (z : Int) : Prop := -9223372036854775808 ≤ z ∧ z ≤ 9223372036854775807
instance (z : Int) : Decidable (fits z) := by unfold fits; infer_instance
end Go.Proofs.YtmfaejdnaippkaaDoor

end
section
/-
  Contracts and plain laws on the way to the statement; each says its own conditions.
-/

open Go Go.Proofs Go.Pw
namespace Go.Proofs.YtmfaejdnaippkaaDoor
set_option maxRecDepth 4000
set_option linter.unusedSimpArgs false
set_option linter.unusedVariables false
def carry (f : Int) : Int × Int := if 10000 ≤ f then (f - 10000, 1) else if f < 0 then (f + 10000, -1) else (f, 0)
def bothG (a b : List Int) (s : Int) : Nat → Nat → Int → List Int × Int
  | 0, _, o => ([], o)
  | k + 1, i, o =>
    let c := carry (o + a.getD i 0 + s * b.getD i 0)
    let r := bothG a b s k (i + 1) c.2
    (c.1 :: r.1, r.2)
def Digs (a : List Int) : Prop := ∀ x ∈ a, 0 ≤ x ∧ x ≤ 9999
theorem Digs.get {a : List Int} (h : Digs a) (i : Nat) : 0 ≤ a.getD i 0 ∧ a.getD i 0 ≤ 9999 := by
  rw [List.getD_eq_getElem?_getD]
  cases hx : a[i]? with
  | none => simp
  | some x => exact h x (List.mem_of_getElem? hx)
theorem getD_none {a : List Int} {i : Nat} (h : a.length ≤ i) : a.getD i 0 = 0 := by
  rw [List.getD_eq_getElem?_getD, List.getElem?_eq_none h]; rfl
structure BothI (a b : List Int) (s : Int) (N : Nat) where
  i : Int
  o : Int
  xs : List Int
  k : Nat
  k1 : 0 ≤ i
  k2 : i ≤ N
  k3 : -1 ≤ o
  k4 : o ≤ 1
  k5 : xs.length = i.toNat
  k6 : bothG a b s N 0 0 = (xs ++ (bothG a b s (N - i.toNat) i.toNat o).1, (bothG a b s (N - i.toNat) i.toNat o).2)
end Go.Proofs.YtmfaejdnaippkaaDoor

end
section
/-
  Contracts and plain laws on the way to the statement; each says its own conditions.
-/

open Go Go.Proofs Go.Pw
namespace Go.Proofs.YtmfaejdnaippkaaDoor
set_option maxRecDepth 4000
set_option linter.unusedSimpArgs false
set_option linter.unusedVariables false
end Go.Proofs.YtmfaejdnaippkaaDoor

end
section
/-
  Contracts and plain laws on the way to the statement; each says its own conditions.
-/

open Go Go.Proofs Go.Pw
namespace Go.Proofs.YtmfaejdnaippkaaDoor
set_option maxRecDepth 4000
set_option linter.unusedSimpArgs false
set_option linter.unusedVariables false
end Go.Proofs.YtmfaejdnaippkaaDoor

end
section
/-
  Contracts and plain laws on the way to the statement; each says its own conditions.
-/

open Go Go.Proofs Go.Pw
namespace Go.Proofs.YtmfaejdnaippkaaDoor
set_option maxRecDepth 4000
set_option linter.unusedSimpArgs false
set_option linter.unusedVariables false
def valF : List Int → Int
  | [] => 0
  | x :: r => x + 10000 * valF r
theorem figs_zero : figs 0 = [] := by rw [figs]; simp
theorem figs_val (n : Nat) : valF (figs n) = n := by
  induction n using Nat.strongRecOn with
  | _ n ih =>
    by_cases h : n = 0
    · subst h; rw [figs_zero]; rfl
    · rw [figs_step n h, valF, ih (n / 10000) (by omega)]
      omega
theorem figs_digs (n : Nat) : Digs (figs n) := by
  induction n using Nat.strongRecOn with
  | _ n ih =>
    by_cases h : n = 0
    · subst h; rw [figs_zero]; intro x hx; cases hx
    · rw [figs_step n h]
      intro x hx
      rcases List.mem_cons.1 hx with rfl | hx
      · omega
      · exact ih (n / 10000) (by omega) x hx
theorem valF_nonneg : ∀ {l : List Int}, Digs l → 0 ≤ valF l
  | [], _ => by decide
  | x :: r, h => by
    have h1 := h x (by simp)
    have h2 := valF_nonneg (l := r) (fun y hy => h y (by simp [hy]))
    rw [valF]
    omega
end Go.Proofs.YtmfaejdnaippkaaDoor

end
section
/-
  Contracts and plain laws on the way to the statement; each says its own conditions.
-/

open Go Go.Proofs Go.Pw
namespace Go.Proofs.YtmfaejdnaippkaaDoor
set_option maxRecDepth 4000
set_option linter.unusedSimpArgs false
set_option linter.unusedVariables false
end Go.Proofs.YtmfaejdnaippkaaDoor

end
section
/-
  Contracts and plain laws on the way to the statement; each says its own conditions.
-/

open Go Go.Proofs Go.Pw
namespace Go.Proofs.YtmfaejdnaippkaaDoor
set_option maxRecDepth 4000
set_option linter.unusedSimpArgs false
set_option linter.unusedVariables false
theorem pow_pos' (k : Nat) : (0 : Int) < 10000 ^ k := Int.pow_pos (by decide)
theorem valF_lt : ∀ {l : List Int}, Digs l → valF l < 10000 ^ l.length
  | [], _ => by decide
  | x :: r, h => by
    have h1 := h x (by simp)
    have ih := valF_lt (l := r) (fun y hy => h y (by simp [hy]))
    rw [valF, List.length_cons, Int.pow_succ]
    omega
theorem pow_le' {j k : Nat} (h : j ≤ k) : (10000 : Int) ^ j ≤ 10000 ^ k := by
  obtain ⟨d, rfl⟩ := Nat.exists_eq_add_of_le h
  induction d with
  | zero => exact Int.le_refl _
  | succ d ih =>
    have := ih (by omega)
    have := pow_pos' (j + d)
    rw [← Nat.add_assoc, Int.pow_succ]
    omega
end Go.Proofs.YtmfaejdnaippkaaDoor

end
section
/-
  Contracts and plain laws on the way to the statement; each says its own conditions.
-/

open Go Go.Proofs Go.Pw
namespace Go.Proofs.YtmfaejdnaippkaaDoor
set_option maxRecDepth 4000
set_option linter.unusedSimpArgs false
set_option linter.unusedVariables false
theorem Digs.take {a : List Int} (h : Digs a) (k : Nat) : Digs (a.take k) := fun x hx => h x (List.mem_of_mem_take hx)
theorem figs_len_ge (n : Nat) (h : n ≠ 0) : (10000 : Int) ^ ((figs n).length - 1) ≤ n := by
  induction n using Nat.strongRecOn with
  | _ n ih =>
    rw [figs_step n h, List.length_cons]
    by_cases h' : n / 10000 = 0
    · rw [h', figs_zero]; simp; omega
    · have := ih (n / 10000) (by omega) h'
      have hl : (figs (n / 10000)).length ≠ 0 := by rw [figs_step _ h']; simp
      rw [show (figs (n / 10000)).length + 1 - 1 = ((figs (n / 10000)).length - 1) + 1 by omega, Int.pow_succ]
      omega
end Go.Proofs.YtmfaejdnaippkaaDoor

end
section
/-
  Contracts and plain laws on the way to the statement; each says its own conditions.
-/

open Go Go.Proofs Go.Pw
namespace Go.Proofs.YtmfaejdnaippkaaDoor
set_option maxRecDepth 4000
set_option linter.unusedSimpArgs false
set_option linter.unusedVariables false
theorem figs_nil (n : Nat) : figs n = [] ↔ n = 0 := by
  constructor
  · intro h
    apply Decidable.byContradiction
    intro hn
    rw [figs_step n hn] at h
    cases h
  · intro h; subst h; exact figs_zero
theorem figs_pos (n : Nat) : 0 < (figs n).length ↔ 0 < n := by
  have := figs_nil n
  rw [← List.length_eq_zero_iff] at this
  omega
/-- Of at most so many figures. -/
def Fg (k : Nat) (z : Int) : Prop := z.natAbs < 10000 ^ k
/-- Small enough to be reckoned with. -/
def Sm (z : Int) : Prop := ∃ k, k ≤ 9000 ∧ Fg k z
theorem Fg.mono {j k : Nat} {z : Int} (h : Fg j z) (hk : j ≤ k) : Fg k z := Nat.lt_of_lt_of_le h (Nat.pow_le_pow_right (by decide) hk)
theorem Fg.sm {k : Nat} {z : Int} (h : Fg k z) (hk : k ≤ 9000) : Sm z := ⟨k, hk, h⟩
theorem Sm.len {z : Int} (h : Sm z) : (figs z.natAbs).length ≤ 9000 := by
  obtain ⟨k, h1, h2⟩ := h
  exact Nat.le_trans (figs_len k _ h2) h1
theorem Fg.of_fits {z : Int} (h : fits z) : Fg 5 z := by
  unfold fits at h
  exact Nat.lt_of_le_of_lt (show z.natAbs ≤ 9223372036854775808 by omega) (by decide)
theorem Sm.of_fits {z : Int} (h : fits z) : Sm z := (Fg.of_fits h).sm (by decide)
theorem Fg.add {k : Nat} {x y : Int} (h : Fg k x) (g : Fg k y) : Fg (k + 1) (x + y) := by
  unfold Fg at *
  rw [Nat.pow_succ]
  omega
theorem Fg.neg {k : Nat} {x : Int} (h : Fg k x) : Fg k (-x) := by
  unfold Fg at *
  omega
theorem Fg.mul {j k : Nat} {x y : Int} (h : Fg j x) (g : Fg k y) : Fg (j + k) (x * y) := by
  unfold Fg at *
  rw [Int.natAbs_mul, Nat.pow_add]
  exact Nat.mul_lt_mul_of_lt_of_le h (Nat.le_of_lt g) (Nat.pow_pos (by decide))
theorem of_rep (n : Int) (h : fits n) : Ok Tryd.prog 60 [vI n] (repN n) := of_ok n h.1 h.2
theorem Sm.neg {x : Int} (h : Sm x) : Sm (-x) := by
  obtain ⟨k, h1, h2⟩ := h
  exact ⟨k, h1, h2.neg⟩
end Go.Proofs.YtmfaejdnaippkaaDoor

end
section
/-
  Contracts and plain laws on the way to the statement; each says its own conditions.
-/

open Go Go.Proofs Go.Pw
namespace Go.Proofs.YtmfaejdnaippkaaDoor
set_option maxRecDepth 4000
set_option linter.unusedSimpArgs false
set_option linter.unusedVariables false
theorem valF_fg {a : List Int} (hA : Digs a) : Fg a.length (valF a) := by
  have h1 := valF_nonneg hA
  have h2 := valF_lt hA
  unfold Fg
  have : ((10000 ^ a.length : Nat) : Int) = (10000 : Int) ^ a.length := by simp
  omega
end Go.Proofs.YtmfaejdnaippkaaDoor

end
section
/-
  Numbers' texts: what they say; the library's reckoning comes to that.
-/
open Go Go.Proofs Go.Pw
namespace Go.Proofs.YtmfaejdnaippkaaDoor
set_option maxRecDepth 4000
set_option linter.unusedSimpArgs false
set_option linter.unusedVariables false
def isD (b : Int) : Prop := 48 ≤ b ∧ b ≤ 57
instance (b : Int) : Decidable (isD b) := by unfold isD; infer_instance
/-- All bytes from one on are digits. -/
def allD (t : ByteArray) (k : Nat) : Prop := ∀ j, j < t.size → k ≤ j → isD (bt t j)
instance (t : ByteArray) (k : Nat) : Decidable (allD t k) := by unfold allD; infer_instance
def fromF (s : ByteArray) : Nat := if 0 < s.size ∧ bt s 0 = 45 then 1 else 0
/-- A number's text. -/
def formP (s : ByteArray) : Prop := fromF s < s.size ∧ ¬ (bt s (fromF s) = 48 ∧ fromF s + 1 < s.size) ∧ allD s (fromF s)
instance (s : ByteArray) : Decidable (formP s) := by unfold formP; infer_instance
end Go.Proofs.YtmfaejdnaippkaaDoor

end
