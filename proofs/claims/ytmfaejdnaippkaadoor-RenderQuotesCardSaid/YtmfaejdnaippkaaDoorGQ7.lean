import Derived.Test.YtmfaejdnaippkaaDoorGQ4
import Derived.Lib.ParseIntB
section
/-
  Contracts and plain laws on the way to the statement; each says its own conditions.
-/

open Go Go.Proofs Go.Pw
namespace Go.Proofs.YtmfaejdnaippkaaDoor
set_option maxRecDepth 4000
set_option linter.unusedSimpArgs false
set_option linter.unusedVariables false
end Go.Proofs.YtmfaejdnaippkaaDoor

end
section
/-
  Contracts and plain laws on the way to the statement; each says its own conditions.
-/

open Go Go.Proofs Go.Pw
namespace Go.Proofs.YtmfaejdnaippkaaDoor
set_option maxRecDepth 4000
set_option linter.unusedSimpArgs false
set_option linter.unusedVariables false
end Go.Proofs.YtmfaejdnaippkaaDoor

end
section
/-
  Contracts and plain laws on the way to the statement; each says its own conditions.
-/
open Go Go.Proofs Go.Pw
namespace Go.Proofs.YtmfaejdnaippkaaDoor
set_option maxRecDepth 4000
set_option linter.unusedSimpArgs false
set_option linter.unusedVariables false
def figs (n : Nat) : List Int := if h : n = 0 then [] else (n % 10000 : Nat) :: figs (n / 10000)
theorem figs_len : ∀ (k N : Nat), N < 10000 ^ k → (figs N).length ≤ k
  | 0, N, h => by
    have : N = 0 := by simpa using h
    subst this
    unfold figs
    simp
  | k + 1, N, h => by
    unfold figs
    split
    · simp
    · have := figs_len k (N / 10000) (by rw [Nat.pow_succ] at h; omega)
      simp only [List.length_cons]
      omega
def fits (z : Int) : Prop := -9223372036854775808 ≤ z ∧ z ≤ 9223372036854775807
instance (z : Int) : Decidable (fits z) := by unfold fits; infer_instance
end Go.Proofs.YtmfaejdnaippkaaDoor

end
section
/-
  Contracts and plain laws on the way to the statement; each says its own conditions.
-/

open Go Go.Proofs Go.Pw
namespace Go.Proofs.YtmfaejdnaippkaaDoor
set_option maxRecDepth 4000
set_option linter.unusedSimpArgs false
set_option linter.unusedVariables false
def carry (f : Int) : Int × Int := if 10000 ≤ f then (f - 10000, 1) else if f < 0 then (f + 10000, -1) else (f, 0)
def bothG (a b : List Int) (s : Int) : Nat → Nat → Int → List Int × Int
  | 0, _, o => ([], o)
  | k + 1, i, o =>
    let c := carry (o + a.getD i 0 + s * b.getD i 0)
    let r := bothG a b s k (i + 1) c.2
    (c.1 :: r.1, r.2)
def Digs (a : List Int) : Prop := ∀ x ∈ a, 0 ≤ x ∧ x ≤ 9999
theorem Digs.get {a : List Int} (h : Digs a) (i : Nat) : 0 ≤ a.getD i 0 ∧ a.getD i 0 ≤ 9999 := by
  rw [List.getD_eq_getElem?_getD]
  cases hx : a[i]? with
  | none => simp
  | some x => exact h x (List.mem_of_getElem? hx)
theorem getD_none {a : List Int} {i : Nat} (h : a.length ≤ i) : a.getD i 0 = 0 := by
  rw [List.getD_eq_getElem?_getD, List.getElem?_eq_none h]; rfl
structure BothI (a b : List Int) (s : Int) (N : Nat) where
  i : Int
  o : Int
  xs : List Int
  k : Nat
  k1 : 0 ≤ i
  k2 : i ≤ N
  k3 : -1 ≤ o
  k4 : o ≤ 1
  k5 : xs.length = i.toNat
  k6 : bothG a b s N 0 0 = (xs ++ (bothG a b s (N - i.toNat) i.toNat o).1, (bothG a b s (N - i.toNat) i.toNat o).2)
end Go.Proofs.YtmfaejdnaippkaaDoor

end
section
/-
  Contracts and plain laws on the way to the statement; each says its own conditions.
-/

open Go Go.Proofs Go.Pw
namespace Go.Proofs.YtmfaejdnaippkaaDoor
set_option maxRecDepth 4000
set_option linter.unusedSimpArgs false
set_option linter.unusedVariables false
end Go.Proofs.YtmfaejdnaippkaaDoor

end
section
/-
  Contracts and plain laws on the way to the statement; each says its own conditions.
-/

open Go Go.Proofs Go.Pw
namespace Go.Proofs.YtmfaejdnaippkaaDoor
set_option maxRecDepth 4000
set_option linter.unusedSimpArgs false
set_option linter.unusedVariables false
end Go.Proofs.YtmfaejdnaippkaaDoor

end
section
/-
  Contracts and plain laws on the way to the statement; each says its own conditions.
-/

open Go Go.Proofs Go.Pw
namespace Go.Proofs.YtmfaejdnaippkaaDoor
set_option maxRecDepth 4000
set_option linter.unusedSimpArgs false
set_option linter.unusedVariables false
end Go.Proofs.YtmfaejdnaippkaaDoor

end
section
/-
  Contracts and plain laws on the way to the statement; each says its own conditions.
-/

open Go Go.Proofs Go.Pw
namespace Go.Proofs.YtmfaejdnaippkaaDoor
set_option maxRecDepth 4000
set_option linter.unusedSimpArgs false
set_option linter.unusedVariables false
end Go.Proofs.YtmfaejdnaippkaaDoor

end
section
/-
  Contracts and plain laws on the way to the statement; each says its own conditions.
-/

open Go Go.Proofs Go.Pw
namespace Go.Proofs.YtmfaejdnaippkaaDoor
set_option maxRecDepth 4000
set_option linter.unusedSimpArgs false
set_option linter.unusedVariables false
end Go.Proofs.YtmfaejdnaippkaaDoor

end
section
/-
  Contracts and plain laws on the way to the statement; each says its own conditions.
-/

open Go Go.Proofs Go.Pw
namespace Go.Proofs.YtmfaejdnaippkaaDoor
set_option maxRecDepth 4000
set_option linter.unusedSimpArgs false
set_option linter.unusedVariables false
theorem Digs.take {a : List Int} (h : Digs a) (k : Nat) : Digs (a.take k) := fun x hx => h x (List.mem_of_mem_take hx)
end Go.Proofs.YtmfaejdnaippkaaDoor

end
section
/-
  Contracts and plain laws on the way to the statement; each says its own conditions.
-/

open Go Go.Proofs Go.Pw
namespace Go.Proofs.YtmfaejdnaippkaaDoor
set_option maxRecDepth 4000
set_option linter.unusedSimpArgs false
set_option linter.unusedVariables false
/-- Of at most so many figures. -/
def Fg (k : Nat) (z : Int) : Prop := z.natAbs < 10000 ^ k
/-- Small enough to be reckoned with. -/
def Sm (z : Int) : Prop := ∃ k, k ≤ 9000 ∧ Fg k z
theorem Fg.mono {j k : Nat} {z : Int} (h : Fg j z) (hk : j ≤ k) : Fg k z := Nat.lt_of_lt_of_le h (Nat.pow_le_pow_right (by decide) hk)
theorem Sm.len {z : Int} (h : Sm z) : (figs z.natAbs).length ≤ 9000 := by
  obtain ⟨k, h1, h2⟩ := h
  exact Nat.le_trans (figs_len k _ h2) h1
theorem Fg.add {k : Nat} {x y : Int} (h : Fg k x) (g : Fg k y) : Fg (k + 1) (x + y) := by
  unfold Fg at *
  rw [Nat.pow_succ]
  omega
theorem Fg.neg {k : Nat} {x : Int} (h : Fg k x) : Fg k (-x) := by
  unfold Fg at *
  omega
theorem Fg.mul {j k : Nat} {x y : Int} (h : Fg j x) (g : Fg k y) : Fg (j + k) (x * y) := by
  unfold Fg at *
  rw [Int.natAbs_mul, Nat.pow_add]
  exact Nat.mul_lt_mul_of_lt_of_le h (Nat.le_of_lt g) (Nat.pow_pos (by decide))
theorem Sm.neg {x : Int} (h : Sm x) : Sm (-x) := by
  obtain ⟨k, h1, h2⟩ := h
  exact ⟨k, h1, h2.neg⟩
end Go.Proofs.YtmfaejdnaippkaaDoor

end
section
/-
  Contracts and plain laws on the way to the statement; each says its own conditions.
-/

open Go Go.Proofs Go.Pw
namespace Go.Proofs.YtmfaejdnaippkaaDoor
set_option maxRecDepth 4000
set_option linter.unusedSimpArgs false
set_option linter.unusedVariables false
end Go.Proofs.YtmfaejdnaippkaaDoor

end
section
/-
  Numbers' texts: what they say; the library's reckoning comes to that.
-/
open Go Go.Proofs Go.Pw
namespace Go.Proofs.YtmfaejdnaippkaaDoor
set_option maxRecDepth 4000
set_option linter.unusedSimpArgs false
set_option linter.unusedVariables false
def isD (b : Int) : Prop := 48 ≤ b ∧ b ≤ 57
instance (b : Int) : Decidable (isD b) := by unfold isD; infer_instance
/-- All bytes from one on are digits. -/
def allD (t : ByteArray) (k : Nat) : Prop := ∀ j, j < t.size → k ≤ j → isD (bt t j)
instance (t : ByteArray) (k : Nat) : Decidable (allD t k) := by unfold allD; infer_instance
def fromF (s : ByteArray) : Nat := if 0 < s.size ∧ bt s 0 = 45 then 1 else 0
/-- A number's text. -/
def formP (s : ByteArray) : Prop := fromF s < s.size ∧ ¬ (bt s (fromF s) = 48 ∧ fromF s + 1 < s.size) ∧ allD s (fromF s)
instance (s : ByteArray) : Decidable (formP s) := by unfold formP; infer_instance
end Go.Proofs.YtmfaejdnaippkaaDoor

end
