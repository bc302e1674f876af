import Derived.Test.YtegehnojbfedlaaDoorGA7
/-
  Chapter 25: what a word asks.
-/
open Go Go.Proofs Go.Pw Go.RowKit
namespace Go.Proofs.YtegehnojbfedlaaDoor
set_option maxRecDepth 4000
set_option linter.unusedVariables false
set_option linter.unusedSimpArgs false
/-- A word; how many names and numbers it asks; whether a rest. -/
def words : List (List UInt8 × Nat × Nat × Bool) := [
  ([108, 111, 97, 100], 0, 0, true),
  ([111, 114, 97, 99, 108, 101], 0, 0, true),
  ([105, 109, 112, 111, 114, 116], 1, 0, true),
  ([103, 101, 116], 1, 0, true),
  ([99, 104, 101, 99, 107], 2, 1, false),
  ([114, 101, 102, 108, 101, 99, 116], 2, 1, false),
  ([97, 108, 108], 2, 2, false),
  ([114, 101, 112, 108, 97, 121], 2, 1, true),
  ([103, 101, 110, 101, 114, 97, 116, 101], 2, 3, false),
  ([115, 99, 114, 105, 112, 116], 2, 2, true),
  ([101, 110, 117, 109], 1, 2, false),
  ([115, 104, 114, 105, 110, 107], 1, 2, false),
  ([109, 117, 116, 97, 116, 101], 3, 1, true),
  ([114, 101, 110, 100, 101, 114], 1, 0, false),
  ([102, 97, 105, 108, 115], 1, 0, false),
  ([100, 114, 97, 119, 115], 1, 0, false),
  ([100, 114, 111, 112], 1, 0, false),
  ([108, 105, 110, 101, 115], 1, 1, false),
  ([99, 111, 112, 121], 2, 0, false),
  ([108, 105, 115, 116], 0, 0, false),
  ([115, 104, 111, 119], 0, 0, false)]
def asks (l : List UInt8) : Option (Nat × Nat × Bool) := (words.find? fun x => decide (l = x.1)).map (·.2)
theorem asks_some {l : List UInt8} {q : Nat × Nat × Bool} (h : asks l = some q) : (l, q) ∈ words := by
  unfold asks at h
  obtain ⟨x, hx, rfl⟩ := Option.map_eq_some_iff.1 h
  have h1 := List.find?_some hx
  have h2 := List.mem_of_find?_eq_some hx
  simp only [decide_eq_true_eq] at h1
  rw [h1]
  exact h2
theorem asks_none {l : List UInt8} (h : asks l = none) : ∀ x ∈ words, decide (l = x.1) = false := by
  unfold asks at h
  rw [Option.map_eq_none_iff, List.find?_eq_none] at h
  intro x hx
  simpa using h x hx
def shpP (o : Option (Nat × Nat × Bool)) : PV := match o with
  | some (a, b, r) => .tup [.agg [vI a, vI b, vB r], vB true]
  | none => .tup [.agg [vI 0, vI 0, vB false], vB false]
def askP (o : Option (Nat × Nat × Bool)) : PV := match o with
  | some (a, b, r) => .tup [vI a, vI b, vB r]
  | none => .tup [vI (-1), vI 0, vB false]
set_option maxHeartbeats 4000000 in
theorem shaped_ok (l : List UInt8) : Ok Tryd.prog 28 [vS (bA l)] (shpP (asks l)) := by
  refine Ok.of_pwp (by kernel_rfl) Tryd.func28 rfl (by kernel_rfl) (by kernel_rfl) ?_
  cases h : asks l with
  | none =>
    have g := asks_none h
    unfold words at g
    simp only [List.forall_mem_cons] at g
    obtain ⟨f0, f1, f2, f3, f4, f5, f6, f7, f8, f9, f10, f11, f12, f13, f14, f15, f16, f17, f18, f19, f20, _⟩ := g
    simp (implicitDefEqProofs := false) (disch := omega) only [go_sem, simprocAttr, go_sem, Nat.le_refl, Int.toNat_natCast, Int.toNat_zero, Int.toNat_one, str_eq, sz_bA, tl_bA, Tryd.results28, f0, f1, f2, f3, f4, f5, f6, f7, f8, f9, f10, f11, f12, f13, f14, f15, f16, f17, f18, f19, f20]
    first | done | rfl
  | some q =>
    have g := asks_some h
    unfold words at g
    simp only [List.mem_cons, List.not_mem_nil, or_false, Prod.mk.injEq] at g
    rcases g with ⟨rfl, rfl⟩ | ⟨rfl, rfl⟩ | ⟨rfl, rfl⟩ | ⟨rfl, rfl⟩ | ⟨rfl, rfl⟩ | ⟨rfl, rfl⟩ | ⟨rfl, rfl⟩ | ⟨rfl, rfl⟩ | ⟨rfl, rfl⟩ | ⟨rfl, rfl⟩ | ⟨rfl, rfl⟩ | ⟨rfl, rfl⟩ | ⟨rfl, rfl⟩ | ⟨rfl, rfl⟩ | ⟨rfl, rfl⟩ | ⟨rfl, rfl⟩ | ⟨rfl, rfl⟩ | ⟨rfl, rfl⟩ | ⟨rfl, rfl⟩ | ⟨rfl, rfl⟩ | ⟨rfl, rfl⟩
    · have f0 : decide (([108, 111, 97, 100] : List UInt8) = ([108, 111, 97, 100] : List UInt8)) = true := by decide
      have f1 : decide (([108, 111, 97, 100] : List UInt8) = ([111, 114, 97, 99, 108, 101] : List UInt8)) = false := by decide
      have f2 : decide (([108, 111, 97, 100] : List UInt8) = ([105, 109, 112, 111, 114, 116] : List UInt8)) = false := by decide
      have f3 : decide (([108, 111, 97, 100] : List UInt8) = ([103, 101, 116] : List UInt8)) = false := by decide
      have f4 : decide (([108, 111, 97, 100] : List UInt8) = ([99, 104, 101, 99, 107] : List UInt8)) = false := by decide
      have f5 : decide (([108, 111, 97, 100] : List UInt8) = ([114, 101, 102, 108, 101, 99, 116] : List UInt8)) = false := by decide
      have f6 : decide (([108, 111, 97, 100] : List UInt8) = ([97, 108, 108] : List UInt8)) = false := by decide
      have f7 : decide (([108, 111, 97, 100] : List UInt8) = ([114, 101, 112, 108, 97, 121] : List UInt8)) = false := by decide
      have f8 : decide (([108, 111, 97, 100] : List UInt8) = ([103, 101, 110, 101, 114, 97, 116, 101] : List UInt8)) = false := by decide
      have f9 : decide (([108, 111, 97, 100] : List UInt8) = ([115, 99, 114, 105, 112, 116] : List UInt8)) = false := by decide
      have f10 : decide (([108, 111, 97, 100] : List UInt8) = ([101, 110, 117, 109] : List UInt8)) = false := by decide
      have f11 : decide (([108, 111, 97, 100] : List UInt8) = ([115, 104, 114, 105, 110, 107] : List UInt8)) = false := by decide
      have f12 : decide (([108, 111, 97, 100] : List UInt8) = ([109, 117, 116, 97, 116, 101] : List UInt8)) = false := by decide
      have f13 : decide (([108, 111, 97, 100] : List UInt8) = ([114, 101, 110, 100, 101, 114] : List UInt8)) = false := by decide
      have f14 : decide (([108, 111, 97, 100] : List UInt8) = ([102, 97, 105, 108, 115] : List UInt8)) = false := by decide
      have f15 : decide (([108, 111, 97, 100] : List UInt8) = ([100, 114, 97, 119, 115] : List UInt8)) = false := by decide
      have f16 : decide (([108, 111, 97, 100] : List UInt8) = ([100, 114, 111, 112] : List UInt8)) = false := by decide
      have f17 : decide (([108, 111, 97, 100] : List UInt8) = ([108, 105, 110, 101, 115] : List UInt8)) = false := by decide
      have f18 : decide (([108, 111, 97, 100] : List UInt8) = ([99, 111, 112, 121] : List UInt8)) = false := by decide
      have f19 : decide (([108, 111, 97, 100] : List UInt8) = ([108, 105, 115, 116] : List UInt8)) = false := by decide
      have f20 : decide (([108, 111, 97, 100] : List UInt8) = ([115, 104, 111, 119] : List UInt8)) = false := by decide
      simp (implicitDefEqProofs := false) (disch := omega) only [go_sem, simprocAttr, go_sem, Nat.le_refl, Int.toNat_natCast, Int.toNat_zero, Int.toNat_one, str_eq, sz_bA, tl_bA, Tryd.results28, f0, f1, f2, f3, f4, f5, f6, f7, f8, f9, f10, f11, f12, f13, f14, f15, f16, f17, f18, f19, f20]
      first | done | rfl
    · have f0 : decide (([111, 114, 97, 99, 108, 101] : List UInt8) = ([108, 111, 97, 100] : List UInt8)) = false := by decide
      have f1 : decide (([111, 114, 97, 99, 108, 101] : List UInt8) = ([111, 114, 97, 99, 108, 101] : List UInt8)) = true := by decide
      have f2 : decide (([111, 114, 97, 99, 108, 101] : List UInt8) = ([105, 109, 112, 111, 114, 116] : List UInt8)) = false := by decide
      have f3 : decide (([111, 114, 97, 99, 108, 101] : List UInt8) = ([103, 101, 116] : List UInt8)) = false := by decide
      have f4 : decide (([111, 114, 97, 99, 108, 101] : List UInt8) = ([99, 104, 101, 99, 107] : List UInt8)) = false := by decide
      have f5 : decide (([111, 114, 97, 99, 108, 101] : List UInt8) = ([114, 101, 102, 108, 101, 99, 116] : List UInt8)) = false := by decide
      have f6 : decide (([111, 114, 97, 99, 108, 101] : List UInt8) = ([97, 108, 108] : List UInt8)) = false := by decide
      have f7 : decide (([111, 114, 97, 99, 108, 101] : List UInt8) = ([114, 101, 112, 108, 97, 121] : List UInt8)) = false := by decide
      have f8 : decide (([111, 114, 97, 99, 108, 101] : List UInt8) = ([103, 101, 110, 101, 114, 97, 116, 101] : List UInt8)) = false := by decide
      have f9 : decide (([111, 114, 97, 99, 108, 101] : List UInt8) = ([115, 99, 114, 105, 112, 116] : List UInt8)) = false := by decide
      have f10 : decide (([111, 114, 97, 99, 108, 101] : List UInt8) = ([101, 110, 117, 109] : List UInt8)) = false := by decide
      have f11 : decide (([111, 114, 97, 99, 108, 101] : List UInt8) = ([115, 104, 114, 105, 110, 107] : List UInt8)) = false := by decide
      have f12 : decide (([111, 114, 97, 99, 108, 101] : List UInt8) = ([109, 117, 116, 97, 116, 101] : List UInt8)) = false := by decide
      have f13 : decide (([111, 114, 97, 99, 108, 101] : List UInt8) = ([114, 101, 110, 100, 101, 114] : List UInt8)) = false := by decide
      have f14 : decide (([111, 114, 97, 99, 108, 101] : List UInt8) = ([102, 97, 105, 108, 115] : List UInt8)) = false := by decide
      have f15 : decide (([111, 114, 97, 99, 108, 101] : List UInt8) = ([100, 114, 97, 119, 115] : List UInt8)) = false := by decide
      have f16 : decide (([111, 114, 97, 99, 108, 101] : List UInt8) = ([100, 114, 111, 112] : List UInt8)) = false := by decide
      have f17 : decide (([111, 114, 97, 99, 108, 101] : List UInt8) = ([108, 105, 110, 101, 115] : List UInt8)) = false := by decide
      have f18 : decide (([111, 114, 97, 99, 108, 101] : List UInt8) = ([99, 111, 112, 121] : List UInt8)) = false := by decide
      have f19 : decide (([111, 114, 97, 99, 108, 101] : List UInt8) = ([108, 105, 115, 116] : List UInt8)) = false := by decide
      have f20 : decide (([111, 114, 97, 99, 108, 101] : List UInt8) = ([115, 104, 111, 119] : List UInt8)) = false := by decide
      simp (implicitDefEqProofs := false) (disch := omega) only [go_sem, simprocAttr, go_sem, Nat.le_refl, Int.toNat_natCast, Int.toNat_zero, Int.toNat_one, str_eq, sz_bA, tl_bA, Tryd.results28, f0, f1, f2, f3, f4, f5, f6, f7, f8, f9, f10, f11, f12, f13, f14, f15, f16, f17, f18, f19, f20]
      first | done | rfl
    · have f0 : decide (([105, 109, 112, 111, 114, 116] : List UInt8) = ([108, 111, 97, 100] : List UInt8)) = false := by decide
      have f1 : decide (([105, 109, 112, 111, 114, 116] : List UInt8) = ([111, 114, 97, 99, 108, 101] : List UInt8)) = false := by decide
      have f2 : decide (([105, 109, 112, 111, 114, 116] : List UInt8) = ([105, 109, 112, 111, 114, 116] : List UInt8)) = true := by decide
      have f3 : decide (([105, 109, 112, 111, 114, 116] : List UInt8) = ([103, 101, 116] : List UInt8)) = false := by decide
      have f4 : decide (([105, 109, 112, 111, 114, 116] : List UInt8) = ([99, 104, 101, 99, 107] : List UInt8)) = false := by decide
      have f5 : decide (([105, 109, 112, 111, 114, 116] : List UInt8) = ([114, 101, 102, 108, 101, 99, 116] : List UInt8)) = false := by decide
      have f6 : decide (([105, 109, 112, 111, 114, 116] : List UInt8) = ([97, 108, 108] : List UInt8)) = false := by decide
      have f7 : decide (([105, 109, 112, 111, 114, 116] : List UInt8) = ([114, 101, 112, 108, 97, 121] : List UInt8)) = false := by decide
      have f8 : decide (([105, 109, 112, 111, 114, 116] : List UInt8) = ([103, 101, 110, 101, 114, 97, 116, 101] : List UInt8)) = false := by decide
      have f9 : decide (([105, 109, 112, 111, 114, 116] : List UInt8) = ([115, 99, 114, 105, 112, 116] : List UInt8)) = false := by decide
      have f10 : decide (([105, 109, 112, 111, 114, 116] : List UInt8) = ([101, 110, 117, 109] : List UInt8)) = false := by decide
      have f11 : decide (([105, 109, 112, 111, 114, 116] : List UInt8) = ([115, 104, 114, 105, 110, 107] : List UInt8)) = false := by decide
      have f12 : decide (([105, 109, 112, 111, 114, 116] : List UInt8) = ([109, 117, 116, 97, 116, 101] : List UInt8)) = false := by decide
      have f13 : decide (([105, 109, 112, 111, 114, 116] : List UInt8) = ([114, 101, 110, 100, 101, 114] : List UInt8)) = false := by decide
      have f14 : decide (([105, 109, 112, 111, 114, 116] : List UInt8) = ([102, 97, 105, 108, 115] : List UInt8)) = false := by decide
      have f15 : decide (([105, 109, 112, 111, 114, 116] : List UInt8) = ([100, 114, 97, 119, 115] : List UInt8)) = false := by decide
      have f16 : decide (([105, 109, 112, 111, 114, 116] : List UInt8) = ([100, 114, 111, 112] : List UInt8)) = false := by decide
      have f17 : decide (([105, 109, 112, 111, 114, 116] : List UInt8) = ([108, 105, 110, 101, 115] : List UInt8)) = false := by decide
      have f18 : decide (([105, 109, 112, 111, 114, 116] : List UInt8) = ([99, 111, 112, 121] : List UInt8)) = false := by decide
      have f19 : decide (([105, 109, 112, 111, 114, 116] : List UInt8) = ([108, 105, 115, 116] : List UInt8)) = false := by decide
      have f20 : decide (([105, 109, 112, 111, 114, 116] : List UInt8) = ([115, 104, 111, 119] : List UInt8)) = false := by decide
      simp (implicitDefEqProofs := false) (disch := omega) only [go_sem, simprocAttr, go_sem, Nat.le_refl, Int.toNat_natCast, Int.toNat_zero, Int.toNat_one, str_eq, sz_bA, tl_bA, Tryd.results28, f0, f1, f2, f3, f4, f5, f6, f7, f8, f9, f10, f11, f12, f13, f14, f15, f16, f17, f18, f19, f20]
      first | done | rfl
    · have f0 : decide (([103, 101, 116] : List UInt8) = ([108, 111, 97, 100] : List UInt8)) = false := by decide
      have f1 : decide (([103, 101, 116] : List UInt8) = ([111, 114, 97, 99, 108, 101] : List UInt8)) = false := by decide
      have f2 : decide (([103, 101, 116] : List UInt8) = ([105, 109, 112, 111, 114, 116] : List UInt8)) = false := by decide
      have f3 : decide (([103, 101, 116] : List UInt8) = ([103, 101, 116] : List UInt8)) = true := by decide
      have f4 : decide (([103, 101, 116] : List UInt8) = ([99, 104, 101, 99, 107] : List UInt8)) = false := by decide
      have f5 : decide (([103, 101, 116] : List UInt8) = ([114, 101, 102, 108, 101, 99, 116] : List UInt8)) = false := by decide
      have f6 : decide (([103, 101, 116] : List UInt8) = ([97, 108, 108] : List UInt8)) = false := by decide
      have f7 : decide (([103, 101, 116] : List UInt8) = ([114, 101, 112, 108, 97, 121] : List UInt8)) = false := by decide
      have f8 : decide (([103, 101, 116] : List UInt8) = ([103, 101, 110, 101, 114, 97, 116, 101] : List UInt8)) = false := by decide
      have f9 : decide (([103, 101, 116] : List UInt8) = ([115, 99, 114, 105, 112, 116] : List UInt8)) = false := by decide
      have f10 : decide (([103, 101, 116] : List UInt8) = ([101, 110, 117, 109] : List UInt8)) = false := by decide
      have f11 : decide (([103, 101, 116] : List UInt8) = ([115, 104, 114, 105, 110, 107] : List UInt8)) = false := by decide
      have f12 : decide (([103, 101, 116] : List UInt8) = ([109, 117, 116, 97, 116, 101] : List UInt8)) = false := by decide
      have f13 : decide (([103, 101, 116] : List UInt8) = ([114, 101, 110, 100, 101, 114] : List UInt8)) = false := by decide
      have f14 : decide (([103, 101, 116] : List UInt8) = ([102, 97, 105, 108, 115] : List UInt8)) = false := by decide
      have f15 : decide (([103, 101, 116] : List UInt8) = ([100, 114, 97, 119, 115] : List UInt8)) = false := by decide
      have f16 : decide (([103, 101, 116] : List UInt8) = ([100, 114, 111, 112] : List UInt8)) = false := by decide
      have f17 : decide (([103, 101, 116] : List UInt8) = ([108, 105, 110, 101, 115] : List UInt8)) = false := by decide
      have f18 : decide (([103, 101, 116] : List UInt8) = ([99, 111, 112, 121] : List UInt8)) = false := by decide
      have f19 : decide (([103, 101, 116] : List UInt8) = ([108, 105, 115, 116] : List UInt8)) = false := by decide
      have f20 : decide (([103, 101, 116] : List UInt8) = ([115, 104, 111, 119] : List UInt8)) = false := by decide
      simp (implicitDefEqProofs := false) (disch := omega) only [go_sem, simprocAttr, go_sem, Nat.le_refl, Int.toNat_natCast, Int.toNat_zero, Int.toNat_one, str_eq, sz_bA, tl_bA, Tryd.results28, f0, f1, f2, f3, f4, f5, f6, f7, f8, f9, f10, f11, f12, f13, f14, f15, f16, f17, f18, f19, f20]
      first | done | rfl
    · have f0 : decide (([99, 104, 101, 99, 107] : List UInt8) = ([108, 111, 97, 100] : List UInt8)) = false := by decide
      have f1 : decide (([99, 104, 101, 99, 107] : List UInt8) = ([111, 114, 97, 99, 108, 101] : List UInt8)) = false := by decide
      have f2 : decide (([99, 104, 101, 99, 107] : List UInt8) = ([105, 109, 112, 111, 114, 116] : List UInt8)) = false := by decide
      have f3 : decide (([99, 104, 101, 99, 107] : List UInt8) = ([103, 101, 116] : List UInt8)) = false := by decide
      have f4 : decide (([99, 104, 101, 99, 107] : List UInt8) = ([99, 104, 101, 99, 107] : List UInt8)) = true := by decide
      have f5 : decide (([99, 104, 101, 99, 107] : List UInt8) = ([114, 101, 102, 108, 101, 99, 116] : List UInt8)) = false := by decide
      have f6 : decide (([99, 104, 101, 99, 107] : List UInt8) = ([97, 108, 108] : List UInt8)) = false := by decide
      have f7 : decide (([99, 104, 101, 99, 107] : List UInt8) = ([114, 101, 112, 108, 97, 121] : List UInt8)) = false := by decide
      have f8 : decide (([99, 104, 101, 99, 107] : List UInt8) = ([103, 101, 110, 101, 114, 97, 116, 101] : List UInt8)) = false := by decide
      have f9 : decide (([99, 104, 101, 99, 107] : List UInt8) = ([115, 99, 114, 105, 112, 116] : List UInt8)) = false := by decide
      have f10 : decide (([99, 104, 101, 99, 107] : List UInt8) = ([101, 110, 117, 109] : List UInt8)) = false := by decide
      have f11 : decide (([99, 104, 101, 99, 107] : List UInt8) = ([115, 104, 114, 105, 110, 107] : List UInt8)) = false := by decide
      have f12 : decide (([99, 104, 101, 99, 107] : List UInt8) = ([109, 117, 116, 97, 116, 101] : List UInt8)) = false := by decide
      have f13 : decide (([99, 104, 101, 99, 107] : List UInt8) = ([114, 101, 110, 100, 101, 114] : List UInt8)) = false := by decide
      have f14 : decide (([99, 104, 101, 99, 107] : List UInt8) = ([102, 97, 105, 108, 115] : List UInt8)) = false := by decide
      have f15 : decide (([99, 104, 101, 99, 107] : List UInt8) = ([100, 114, 97, 119, 115] : List UInt8)) = false := by decide
      have f16 : decide (([99, 104, 101, 99, 107] : List UInt8) = ([100, 114, 111, 112] : List UInt8)) = false := by decide
      have f17 : decide (([99, 104, 101, 99, 107] : List UInt8) = ([108, 105, 110, 101, 115] : List UInt8)) = false := by decide
      have f18 : decide (([99, 104, 101, 99, 107] : List UInt8) = ([99, 111, 112, 121] : List UInt8)) = false := by decide
      have f19 : decide (([99, 104, 101, 99, 107] : List UInt8) = ([108, 105, 115, 116] : List UInt8)) = false := by decide
      have f20 : decide (([99, 104, 101, 99, 107] : List UInt8) = ([115, 104, 111, 119] : List UInt8)) = false := by decide
      simp (implicitDefEqProofs := false) (disch := omega) only [go_sem, simprocAttr, go_sem, Nat.le_refl, Int.toNat_natCast, Int.toNat_zero, Int.toNat_one, str_eq, sz_bA, tl_bA, Tryd.results28, f0, f1, f2, f3, f4, f5, f6, f7, f8, f9, f10, f11, f12, f13, f14, f15, f16, f17, f18, f19, f20]
      first | done | rfl
    · have f0 : decide (([114, 101, 102, 108, 101, 99, 116] : List UInt8) = ([108, 111, 97, 100] : List UInt8)) = false := by decide
      have f1 : decide (([114, 101, 102, 108, 101, 99, 116] : List UInt8) = ([111, 114, 97, 99, 108, 101] : List UInt8)) = false := by decide
      have f2 : decide (([114, 101, 102, 108, 101, 99, 116] : List UInt8) = ([105, 109, 112, 111, 114, 116] : List UInt8)) = false := by decide
      have f3 : decide (([114, 101, 102, 108, 101, 99, 116] : List UInt8) = ([103, 101, 116] : List UInt8)) = false := by decide
      have f4 : decide (([114, 101, 102, 108, 101, 99, 116] : List UInt8) = ([99, 104, 101, 99, 107] : List UInt8)) = false := by decide
      have f5 : decide (([114, 101, 102, 108, 101, 99, 116] : List UInt8) = ([114, 101, 102, 108, 101, 99, 116] : List UInt8)) = true := by decide
      have f6 : decide (([114, 101, 102, 108, 101, 99, 116] : List UInt8) = ([97, 108, 108] : List UInt8)) = false := by decide
      have f7 : decide (([114, 101, 102, 108, 101, 99, 116] : List UInt8) = ([114, 101, 112, 108, 97, 121] : List UInt8)) = false := by decide
      have f8 : decide (([114, 101, 102, 108, 101, 99, 116] : List UInt8) = ([103, 101, 110, 101, 114, 97, 116, 101] : List UInt8)) = false := by decide
      have f9 : decide (([114, 101, 102, 108, 101, 99, 116] : List UInt8) = ([115, 99, 114, 105, 112, 116] : List UInt8)) = false := by decide
      have f10 : decide (([114, 101, 102, 108, 101, 99, 116] : List UInt8) = ([101, 110, 117, 109] : List UInt8)) = false := by decide
      have f11 : decide (([114, 101, 102, 108, 101, 99, 116] : List UInt8) = ([115, 104, 114, 105, 110, 107] : List UInt8)) = false := by decide
      have f12 : decide (([114, 101, 102, 108, 101, 99, 116] : List UInt8) = ([109, 117, 116, 97, 116, 101] : List UInt8)) = false := by decide
      have f13 : decide (([114, 101, 102, 108, 101, 99, 116] : List UInt8) = ([114, 101, 110, 100, 101, 114] : List UInt8)) = false := by decide
      have f14 : decide (([114, 101, 102, 108, 101, 99, 116] : List UInt8) = ([102, 97, 105, 108, 115] : List UInt8)) = false := by decide
      have f15 : decide (([114, 101, 102, 108, 101, 99, 116] : List UInt8) = ([100, 114, 97, 119, 115] : List UInt8)) = false := by decide
      have f16 : decide (([114, 101, 102, 108, 101, 99, 116] : List UInt8) = ([100, 114, 111, 112] : List UInt8)) = false := by decide
      have f17 : decide (([114, 101, 102, 108, 101, 99, 116] : List UInt8) = ([108, 105, 110, 101, 115] : List UInt8)) = false := by decide
      have f18 : decide (([114, 101, 102, 108, 101, 99, 116] : List UInt8) = ([99, 111, 112, 121] : List UInt8)) = false := by decide
      have f19 : decide (([114, 101, 102, 108, 101, 99, 116] : List UInt8) = ([108, 105, 115, 116] : List UInt8)) = false := by decide
      have f20 : decide (([114, 101, 102, 108, 101, 99, 116] : List UInt8) = ([115, 104, 111, 119] : List UInt8)) = false := by decide
      simp (implicitDefEqProofs := false) (disch := omega) only [go_sem, simprocAttr, go_sem, Nat.le_refl, Int.toNat_natCast, Int.toNat_zero, Int.toNat_one, str_eq, sz_bA, tl_bA, Tryd.results28, f0, f1, f2, f3, f4, f5, f6, f7, f8, f9, f10, f11, f12, f13, f14, f15, f16, f17, f18, f19, f20]
      first | done | rfl
    · have f0 : decide (([97, 108, 108] : List UInt8) = ([108, 111, 97, 100] : List UInt8)) = false := by decide
      have f1 : decide (([97, 108, 108] : List UInt8) = ([111, 114, 97, 99, 108, 101] : List UInt8)) = false := by decide
      have f2 : decide (([97, 108, 108] : List UInt8) = ([105, 109, 112, 111, 114, 116] : List UInt8)) = false := by decide
      have f3 : decide (([97, 108, 108] : List UInt8) = ([103, 101, 116] : List UInt8)) = false := by decide
      have f4 : decide (([97, 108, 108] : List UInt8) = ([99, 104, 101, 99, 107] : List UInt8)) = false := by decide
      have f5 : decide (([97, 108, 108] : List UInt8) = ([114, 101, 102, 108, 101, 99, 116] : List UInt8)) = false := by decide
      have f6 : decide (([97, 108, 108] : List UInt8) = ([97, 108, 108] : List UInt8)) = true := by decide
      have f7 : decide (([97, 108, 108] : List UInt8) = ([114, 101, 112, 108, 97, 121] : List UInt8)) = false := by decide
      have f8 : decide (([97, 108, 108] : List UInt8) = ([103, 101, 110, 101, 114, 97, 116, 101] : List UInt8)) = false := by decide
      have f9 : decide (([97, 108, 108] : List UInt8) = ([115, 99, 114, 105, 112, 116] : List UInt8)) = false := by decide
      have f10 : decide (([97, 108, 108] : List UInt8) = ([101, 110, 117, 109] : List UInt8)) = false := by decide
      have f11 : decide (([97, 108, 108] : List UInt8) = ([115, 104, 114, 105, 110, 107] : List UInt8)) = false := by decide
      have f12 : decide (([97, 108, 108] : List UInt8) = ([109, 117, 116, 97, 116, 101] : List UInt8)) = false := by decide
      have f13 : decide (([97, 108, 108] : List UInt8) = ([114, 101, 110, 100, 101, 114] : List UInt8)) = false := by decide
      have f14 : decide (([97, 108, 108] : List UInt8) = ([102, 97, 105, 108, 115] : List UInt8)) = false := by decide
      have f15 : decide (([97, 108, 108] : List UInt8) = ([100, 114, 97, 119, 115] : List UInt8)) = false := by decide
      have f16 : decide (([97, 108, 108] : List UInt8) = ([100, 114, 111, 112] : List UInt8)) = false := by decide
      have f17 : decide (([97, 108, 108] : List UInt8) = ([108, 105, 110, 101, 115] : List UInt8)) = false := by decide
      have f18 : decide (([97, 108, 108] : List UInt8) = ([99, 111, 112, 121] : List UInt8)) = false := by decide
      have f19 : decide (([97, 108, 108] : List UInt8) = ([108, 105, 115, 116] : List UInt8)) = false := by decide
      have f20 : decide (([97, 108, 108] : List UInt8) = ([115, 104, 111, 119] : List UInt8)) = false := by decide
      simp (implicitDefEqProofs := false) (disch := omega) only [go_sem, simprocAttr, go_sem, Nat.le_refl, Int.toNat_natCast, Int.toNat_zero, Int.toNat_one, str_eq, sz_bA, tl_bA, Tryd.results28, f0, f1, f2, f3, f4, f5, f6, f7, f8, f9, f10, f11, f12, f13, f14, f15, f16, f17, f18, f19, f20]
      first | done | rfl
    · have f0 : decide (([114, 101, 112, 108, 97, 121] : List UInt8) = ([108, 111, 97, 100] : List UInt8)) = false := by decide
      have f1 : decide (([114, 101, 112, 108, 97, 121] : List UInt8) = ([111, 114, 97, 99, 108, 101] : List UInt8)) = false := by decide
      have f2 : decide (([114, 101, 112, 108, 97, 121] : List UInt8) = ([105, 109, 112, 111, 114, 116] : List UInt8)) = false := by decide
      have f3 : decide (([114, 101, 112, 108, 97, 121] : List UInt8) = ([103, 101, 116] : List UInt8)) = false := by decide
      have f4 : decide (([114, 101, 112, 108, 97, 121] : List UInt8) = ([99, 104, 101, 99, 107] : List UInt8)) = false := by decide
      have f5 : decide (([114, 101, 112, 108, 97, 121] : List UInt8) = ([114, 101, 102, 108, 101, 99, 116] : List UInt8)) = false := by decide
      have f6 : decide (([114, 101, 112, 108, 97, 121] : List UInt8) = ([97, 108, 108] : List UInt8)) = false := by decide
      have f7 : decide (([114, 101, 112, 108, 97, 121] : List UInt8) = ([114, 101, 112, 108, 97, 121] : List UInt8)) = true := by decide
      have f8 : decide (([114, 101, 112, 108, 97, 121] : List UInt8) = ([103, 101, 110, 101, 114, 97, 116, 101] : List UInt8)) = false := by decide
      have f9 : decide (([114, 101, 112, 108, 97, 121] : List UInt8) = ([115, 99, 114, 105, 112, 116] : List UInt8)) = false := by decide
      have f10 : decide (([114, 101, 112, 108, 97, 121] : List UInt8) = ([101, 110, 117, 109] : List UInt8)) = false := by decide
      have f11 : decide (([114, 101, 112, 108, 97, 121] : List UInt8) = ([115, 104, 114, 105, 110, 107] : List UInt8)) = false := by decide
      have f12 : decide (([114, 101, 112, 108, 97, 121] : List UInt8) = ([109, 117, 116, 97, 116, 101] : List UInt8)) = false := by decide
      have f13 : decide (([114, 101, 112, 108, 97, 121] : List UInt8) = ([114, 101, 110, 100, 101, 114] : List UInt8)) = false := by decide
      have f14 : decide (([114, 101, 112, 108, 97, 121] : List UInt8) = ([102, 97, 105, 108, 115] : List UInt8)) = false := by decide
      have f15 : decide (([114, 101, 112, 108, 97, 121] : List UInt8) = ([100, 114, 97, 119, 115] : List UInt8)) = false := by decide
      have f16 : decide (([114, 101, 112, 108, 97, 121] : List UInt8) = ([100, 114, 111, 112] : List UInt8)) = false := by decide
      have f17 : decide (([114, 101, 112, 108, 97, 121] : List UInt8) = ([108, 105, 110, 101, 115] : List UInt8)) = false := by decide
      have f18 : decide (([114, 101, 112, 108, 97, 121] : List UInt8) = ([99, 111, 112, 121] : List UInt8)) = false := by decide
      have f19 : decide (([114, 101, 112, 108, 97, 121] : List UInt8) = ([108, 105, 115, 116] : List UInt8)) = false := by decide
      have f20 : decide (([114, 101, 112, 108, 97, 121] : List UInt8) = ([115, 104, 111, 119] : List UInt8)) = false := by decide
      simp (implicitDefEqProofs := false) (disch := omega) only [go_sem, simprocAttr, go_sem, Nat.le_refl, Int.toNat_natCast, Int.toNat_zero, Int.toNat_one, str_eq, sz_bA, tl_bA, Tryd.results28, f0, f1, f2, f3, f4, f5, f6, f7, f8, f9, f10, f11, f12, f13, f14, f15, f16, f17, f18, f19, f20]
      first | done | rfl
    · have f0 : decide (([103, 101, 110, 101, 114, 97, 116, 101] : List UInt8) = ([108, 111, 97, 100] : List UInt8)) = false := by decide
      have f1 : decide (([103, 101, 110, 101, 114, 97, 116, 101] : List UInt8) = ([111, 114, 97, 99, 108, 101] : List UInt8)) = false := by decide
      have f2 : decide (([103, 101, 110, 101, 114, 97, 116, 101] : List UInt8) = ([105, 109, 112, 111, 114, 116] : List UInt8)) = false := by decide
      have f3 : decide (([103, 101, 110, 101, 114, 97, 116, 101] : List UInt8) = ([103, 101, 116] : List UInt8)) = false := by decide
      have f4 : decide (([103, 101, 110, 101, 114, 97, 116, 101] : List UInt8) = ([99, 104, 101, 99, 107] : List UInt8)) = false := by decide
      have f5 : decide (([103, 101, 110, 101, 114, 97, 116, 101] : List UInt8) = ([114, 101, 102, 108, 101, 99, 116] : List UInt8)) = false := by decide
      have f6 : decide (([103, 101, 110, 101, 114, 97, 116, 101] : List UInt8) = ([97, 108, 108] : List UInt8)) = false := by decide
      have f7 : decide (([103, 101, 110, 101, 114, 97, 116, 101] : List UInt8) = ([114, 101, 112, 108, 97, 121] : List UInt8)) = false := by decide
      have f8 : decide (([103, 101, 110, 101, 114, 97, 116, 101] : List UInt8) = ([103, 101, 110, 101, 114, 97, 116, 101] : List UInt8)) = true := by decide
      have f9 : decide (([103, 101, 110, 101, 114, 97, 116, 101] : List UInt8) = ([115, 99, 114, 105, 112, 116] : List UInt8)) = false := by decide
      have f10 : decide (([103, 101, 110, 101, 114, 97, 116, 101] : List UInt8) = ([101, 110, 117, 109] : List UInt8)) = false := by decide
      have f11 : decide (([103, 101, 110, 101, 114, 97, 116, 101] : List UInt8) = ([115, 104, 114, 105, 110, 107] : List UInt8)) = false := by decide
      have f12 : decide (([103, 101, 110, 101, 114, 97, 116, 101] : List UInt8) = ([109, 117, 116, 97, 116, 101] : List UInt8)) = false := by decide
      have f13 : decide (([103, 101, 110, 101, 114, 97, 116, 101] : List UInt8) = ([114, 101, 110, 100, 101, 114] : List UInt8)) = false := by decide
      have f14 : decide (([103, 101, 110, 101, 114, 97, 116, 101] : List UInt8) = ([102, 97, 105, 108, 115] : List UInt8)) = false := by decide
      have f15 : decide (([103, 101, 110, 101, 114, 97, 116, 101] : List UInt8) = ([100, 114, 97, 119, 115] : List UInt8)) = false := by decide
      have f16 : decide (([103, 101, 110, 101, 114, 97, 116, 101] : List UInt8) = ([100, 114, 111, 112] : List UInt8)) = false := by decide
      have f17 : decide (([103, 101, 110, 101, 114, 97, 116, 101] : List UInt8) = ([108, 105, 110, 101, 115] : List UInt8)) = false := by decide
      have f18 : decide (([103, 101, 110, 101, 114, 97, 116, 101] : List UInt8) = ([99, 111, 112, 121] : List UInt8)) = false := by decide
      have f19 : decide (([103, 101, 110, 101, 114, 97, 116, 101] : List UInt8) = ([108, 105, 115, 116] : List UInt8)) = false := by decide
      have f20 : decide (([103, 101, 110, 101, 114, 97, 116, 101] : List UInt8) = ([115, 104, 111, 119] : List UInt8)) = false := by decide
      simp (implicitDefEqProofs := false) (disch := omega) only [go_sem, simprocAttr, go_sem, Nat.le_refl, Int.toNat_natCast, Int.toNat_zero, Int.toNat_one, str_eq, sz_bA, tl_bA, Tryd.results28, f0, f1, f2, f3, f4, f5, f6, f7, f8, f9, f10, f11, f12, f13, f14, f15, f16, f17, f18, f19, f20]
      first | done | rfl
    · have f0 : decide (([115, 99, 114, 105, 112, 116] : List UInt8) = ([108, 111, 97, 100] : List UInt8)) = false := by decide
      have f1 : decide (([115, 99, 114, 105, 112, 116] : List UInt8) = ([111, 114, 97, 99, 108, 101] : List UInt8)) = false := by decide
      have f2 : decide (([115, 99, 114, 105, 112, 116] : List UInt8) = ([105, 109, 112, 111, 114, 116] : List UInt8)) = false := by decide
      have f3 : decide (([115, 99, 114, 105, 112, 116] : List UInt8) = ([103, 101, 116] : List UInt8)) = false := by decide
      have f4 : decide (([115, 99, 114, 105, 112, 116] : List UInt8) = ([99, 104, 101, 99, 107] : List UInt8)) = false := by decide
      have f5 : decide (([115, 99, 114, 105, 112, 116] : List UInt8) = ([114, 101, 102, 108, 101, 99, 116] : List UInt8)) = false := by decide
      have f6 : decide (([115, 99, 114, 105, 112, 116] : List UInt8) = ([97, 108, 108] : List UInt8)) = false := by decide
      have f7 : decide (([115, 99, 114, 105, 112, 116] : List UInt8) = ([114, 101, 112, 108, 97, 121] : List UInt8)) = false := by decide
      have f8 : decide (([115, 99, 114, 105, 112, 116] : List UInt8) = ([103, 101, 110, 101, 114, 97, 116, 101] : List UInt8)) = false := by decide
      have f9 : decide (([115, 99, 114, 105, 112, 116] : List UInt8) = ([115, 99, 114, 105, 112, 116] : List UInt8)) = true := by decide
      have f10 : decide (([115, 99, 114, 105, 112, 116] : List UInt8) = ([101, 110, 117, 109] : List UInt8)) = false := by decide
      have f11 : decide (([115, 99, 114, 105, 112, 116] : List UInt8) = ([115, 104, 114, 105, 110, 107] : List UInt8)) = false := by decide
      have f12 : decide (([115, 99, 114, 105, 112, 116] : List UInt8) = ([109, 117, 116, 97, 116, 101] : List UInt8)) = false := by decide
      have f13 : decide (([115, 99, 114, 105, 112, 116] : List UInt8) = ([114, 101, 110, 100, 101, 114] : List UInt8)) = false := by decide
      have f14 : decide (([115, 99, 114, 105, 112, 116] : List UInt8) = ([102, 97, 105, 108, 115] : List UInt8)) = false := by decide
      have f15 : decide (([115, 99, 114, 105, 112, 116] : List UInt8) = ([100, 114, 97, 119, 115] : List UInt8)) = false := by decide
      have f16 : decide (([115, 99, 114, 105, 112, 116] : List UInt8) = ([100, 114, 111, 112] : List UInt8)) = false := by decide
      have f17 : decide (([115, 99, 114, 105, 112, 116] : List UInt8) = ([108, 105, 110, 101, 115] : List UInt8)) = false := by decide
      have f18 : decide (([115, 99, 114, 105, 112, 116] : List UInt8) = ([99, 111, 112, 121] : List UInt8)) = false := by decide
      have f19 : decide (([115, 99, 114, 105, 112, 116] : List UInt8) = ([108, 105, 115, 116] : List UInt8)) = false := by decide
      have f20 : decide (([115, 99, 114, 105, 112, 116] : List UInt8) = ([115, 104, 111, 119] : List UInt8)) = false := by decide
      simp (implicitDefEqProofs := false) (disch := omega) only [go_sem, simprocAttr, go_sem, Nat.le_refl, Int.toNat_natCast, Int.toNat_zero, Int.toNat_one, str_eq, sz_bA, tl_bA, Tryd.results28, f0, f1, f2, f3, f4, f5, f6, f7, f8, f9, f10, f11, f12, f13, f14, f15, f16, f17, f18, f19, f20]
      first | done | rfl
    · have f0 : decide (([101, 110, 117, 109] : List UInt8) = ([108, 111, 97, 100] : List UInt8)) = false := by decide
      have f1 : decide (([101, 110, 117, 109] : List UInt8) = ([111, 114, 97, 99, 108, 101] : List UInt8)) = false := by decide
      have f2 : decide (([101, 110, 117, 109] : List UInt8) = ([105, 109, 112, 111, 114, 116] : List UInt8)) = false := by decide
      have f3 : decide (([101, 110, 117, 109] : List UInt8) = ([103, 101, 116] : List UInt8)) = false := by decide
      have f4 : decide (([101, 110, 117, 109] : List UInt8) = ([99, 104, 101, 99, 107] : List UInt8)) = false := by decide
      have f5 : decide (([101, 110, 117, 109] : List UInt8) = ([114, 101, 102, 108, 101, 99, 116] : List UInt8)) = false := by decide
      have f6 : decide (([101, 110, 117, 109] : List UInt8) = ([97, 108, 108] : List UInt8)) = false := by decide
      have f7 : decide (([101, 110, 117, 109] : List UInt8) = ([114, 101, 112, 108, 97, 121] : List UInt8)) = false := by decide
      have f8 : decide (([101, 110, 117, 109] : List UInt8) = ([103, 101, 110, 101, 114, 97, 116, 101] : List UInt8)) = false := by decide
      have f9 : decide (([101, 110, 117, 109] : List UInt8) = ([115, 99, 114, 105, 112, 116] : List UInt8)) = false := by decide
      have f10 : decide (([101, 110, 117, 109] : List UInt8) = ([101, 110, 117, 109] : List UInt8)) = true := by decide
      have f11 : decide (([101, 110, 117, 109] : List UInt8) = ([115, 104, 114, 105, 110, 107] : List UInt8)) = false := by decide
      have f12 : decide (([101, 110, 117, 109] : List UInt8) = ([109, 117, 116, 97, 116, 101] : List UInt8)) = false := by decide
      have f13 : decide (([101, 110, 117, 109] : List UInt8) = ([114, 101, 110, 100, 101, 114] : List UInt8)) = false := by decide
      have f14 : decide (([101, 110, 117, 109] : List UInt8) = ([102, 97, 105, 108, 115] : List UInt8)) = false := by decide
      have f15 : decide (([101, 110, 117, 109] : List UInt8) = ([100, 114, 97, 119, 115] : List UInt8)) = false := by decide
      have f16 : decide (([101, 110, 117, 109] : List UInt8) = ([100, 114, 111, 112] : List UInt8)) = false := by decide
      have f17 : decide (([101, 110, 117, 109] : List UInt8) = ([108, 105, 110, 101, 115] : List UInt8)) = false := by decide
      have f18 : decide (([101, 110, 117, 109] : List UInt8) = ([99, 111, 112, 121] : List UInt8)) = false := by decide
      have f19 : decide (([101, 110, 117, 109] : List UInt8) = ([108, 105, 115, 116] : List UInt8)) = false := by decide
      have f20 : decide (([101, 110, 117, 109] : List UInt8) = ([115, 104, 111, 119] : List UInt8)) = false := by decide
      simp (implicitDefEqProofs := false) (disch := omega) only [go_sem, simprocAttr, go_sem, Nat.le_refl, Int.toNat_natCast, Int.toNat_zero, Int.toNat_one, str_eq, sz_bA, tl_bA, Tryd.results28, f0, f1, f2, f3, f4, f5, f6, f7, f8, f9, f10, f11, f12, f13, f14, f15, f16, f17, f18, f19, f20]
      first | done | rfl
    · have f0 : decide (([115, 104, 114, 105, 110, 107] : List UInt8) = ([108, 111, 97, 100] : List UInt8)) = false := by decide
      have f1 : decide (([115, 104, 114, 105, 110, 107] : List UInt8) = ([111, 114, 97, 99, 108, 101] : List UInt8)) = false := by decide
      have f2 : decide (([115, 104, 114, 105, 110, 107] : List UInt8) = ([105, 109, 112, 111, 114, 116] : List UInt8)) = false := by decide
      have f3 : decide (([115, 104, 114, 105, 110, 107] : List UInt8) = ([103, 101, 116] : List UInt8)) = false := by decide
      have f4 : decide (([115, 104, 114, 105, 110, 107] : List UInt8) = ([99, 104, 101, 99, 107] : List UInt8)) = false := by decide
      have f5 : decide (([115, 104, 114, 105, 110, 107] : List UInt8) = ([114, 101, 102, 108, 101, 99, 116] : List UInt8)) = false := by decide
      have f6 : decide (([115, 104, 114, 105, 110, 107] : List UInt8) = ([97, 108, 108] : List UInt8)) = false := by decide
      have f7 : decide (([115, 104, 114, 105, 110, 107] : List UInt8) = ([114, 101, 112, 108, 97, 121] : List UInt8)) = false := by decide
      have f8 : decide (([115, 104, 114, 105, 110, 107] : List UInt8) = ([103, 101, 110, 101, 114, 97, 116, 101] : List UInt8)) = false := by decide
      have f9 : decide (([115, 104, 114, 105, 110, 107] : List UInt8) = ([115, 99, 114, 105, 112, 116] : List UInt8)) = false := by decide
      have f10 : decide (([115, 104, 114, 105, 110, 107] : List UInt8) = ([101, 110, 117, 109] : List UInt8)) = false := by decide
      have f11 : decide (([115, 104, 114, 105, 110, 107] : List UInt8) = ([115, 104, 114, 105, 110, 107] : List UInt8)) = true := by decide
      have f12 : decide (([115, 104, 114, 105, 110, 107] : List UInt8) = ([109, 117, 116, 97, 116, 101] : List UInt8)) = false := by decide
      have f13 : decide (([115, 104, 114, 105, 110, 107] : List UInt8) = ([114, 101, 110, 100, 101, 114] : List UInt8)) = false := by decide
      have f14 : decide (([115, 104, 114, 105, 110, 107] : List UInt8) = ([102, 97, 105, 108, 115] : List UInt8)) = false := by decide
      have f15 : decide (([115, 104, 114, 105, 110, 107] : List UInt8) = ([100, 114, 97, 119, 115] : List UInt8)) = false := by decide
      have f16 : decide (([115, 104, 114, 105, 110, 107] : List UInt8) = ([100, 114, 111, 112] : List UInt8)) = false := by decide
      have f17 : decide (([115, 104, 114, 105, 110, 107] : List UInt8) = ([108, 105, 110, 101, 115] : List UInt8)) = false := by decide
      have f18 : decide (([115, 104, 114, 105, 110, 107] : List UInt8) = ([99, 111, 112, 121] : List UInt8)) = false := by decide
      have f19 : decide (([115, 104, 114, 105, 110, 107] : List UInt8) = ([108, 105, 115, 116] : List UInt8)) = false := by decide
      have f20 : decide (([115, 104, 114, 105, 110, 107] : List UInt8) = ([115, 104, 111, 119] : List UInt8)) = false := by decide
      simp (implicitDefEqProofs := false) (disch := omega) only [go_sem, simprocAttr, go_sem, Nat.le_refl, Int.toNat_natCast, Int.toNat_zero, Int.toNat_one, str_eq, sz_bA, tl_bA, Tryd.results28, f0, f1, f2, f3, f4, f5, f6, f7, f8, f9, f10, f11, f12, f13, f14, f15, f16, f17, f18, f19, f20]
      first | done | rfl
    · have f0 : decide (([109, 117, 116, 97, 116, 101] : List UInt8) = ([108, 111, 97, 100] : List UInt8)) = false := by decide
      have f1 : decide (([109, 117, 116, 97, 116, 101] : List UInt8) = ([111, 114, 97, 99, 108, 101] : List UInt8)) = false := by decide
      have f2 : decide (([109, 117, 116, 97, 116, 101] : List UInt8) = ([105, 109, 112, 111, 114, 116] : List UInt8)) = false := by decide
      have f3 : decide (([109, 117, 116, 97, 116, 101] : List UInt8) = ([103, 101, 116] : List UInt8)) = false := by decide
      have f4 : decide (([109, 117, 116, 97, 116, 101] : List UInt8) = ([99, 104, 101, 99, 107] : List UInt8)) = false := by decide
      have f5 : decide (([109, 117, 116, 97, 116, 101] : List UInt8) = ([114, 101, 102, 108, 101, 99, 116] : List UInt8)) = false := by decide
      have f6 : decide (([109, 117, 116, 97, 116, 101] : List UInt8) = ([97, 108, 108] : List UInt8)) = false := by decide
      have f7 : decide (([109, 117, 116, 97, 116, 101] : List UInt8) = ([114, 101, 112, 108, 97, 121] : List UInt8)) = false := by decide
      have f8 : decide (([109, 117, 116, 97, 116, 101] : List UInt8) = ([103, 101, 110, 101, 114, 97, 116, 101] : List UInt8)) = false := by decide
      have f9 : decide (([109, 117, 116, 97, 116, 101] : List UInt8) = ([115, 99, 114, 105, 112, 116] : List UInt8)) = false := by decide
      have f10 : decide (([109, 117, 116, 97, 116, 101] : List UInt8) = ([101, 110, 117, 109] : List UInt8)) = false := by decide
      have f11 : decide (([109, 117, 116, 97, 116, 101] : List UInt8) = ([115, 104, 114, 105, 110, 107] : List UInt8)) = false := by decide
      have f12 : decide (([109, 117, 116, 97, 116, 101] : List UInt8) = ([109, 117, 116, 97, 116, 101] : List UInt8)) = true := by decide
      have f13 : decide (([109, 117, 116, 97, 116, 101] : List UInt8) = ([114, 101, 110, 100, 101, 114] : List UInt8)) = false := by decide
      have f14 : decide (([109, 117, 116, 97, 116, 101] : List UInt8) = ([102, 97, 105, 108, 115] : List UInt8)) = false := by decide
      have f15 : decide (([109, 117, 116, 97, 116, 101] : List UInt8) = ([100, 114, 97, 119, 115] : List UInt8)) = false := by decide
      have f16 : decide (([109, 117, 116, 97, 116, 101] : List UInt8) = ([100, 114, 111, 112] : List UInt8)) = false := by decide
      have f17 : decide (([109, 117, 116, 97, 116, 101] : List UInt8) = ([108, 105, 110, 101, 115] : List UInt8)) = false := by decide
      have f18 : decide (([109, 117, 116, 97, 116, 101] : List UInt8) = ([99, 111, 112, 121] : List UInt8)) = false := by decide
      have f19 : decide (([109, 117, 116, 97, 116, 101] : List UInt8) = ([108, 105, 115, 116] : List UInt8)) = false := by decide
      have f20 : decide (([109, 117, 116, 97, 116, 101] : List UInt8) = ([115, 104, 111, 119] : List UInt8)) = false := by decide
      simp (implicitDefEqProofs := false) (disch := omega) only [go_sem, simprocAttr, go_sem, Nat.le_refl, Int.toNat_natCast, Int.toNat_zero, Int.toNat_one, str_eq, sz_bA, tl_bA, Tryd.results28, f0, f1, f2, f3, f4, f5, f6, f7, f8, f9, f10, f11, f12, f13, f14, f15, f16, f17, f18, f19, f20]
      first | done | rfl
    · have f0 : decide (([114, 101, 110, 100, 101, 114] : List UInt8) = ([108, 111, 97, 100] : List UInt8)) = false := by decide
      have f1 : decide (([114, 101, 110, 100, 101, 114] : List UInt8) = ([111, 114, 97, 99, 108, 101] : List UInt8)) = false := by decide
      have f2 : decide (([114, 101, 110, 100, 101, 114] : List UInt8) = ([105, 109, 112, 111, 114, 116] : List UInt8)) = false := by decide
      have f3 : decide (([114, 101, 110, 100, 101, 114] : List UInt8) = ([103, 101, 116] : List UInt8)) = false := by decide
      have f4 : decide (([114, 101, 110, 100, 101, 114] : List UInt8) = ([99, 104, 101, 99, 107] : List UInt8)) = false := by decide
      have f5 : decide (([114, 101, 110, 100, 101, 114] : List UInt8) = ([114, 101, 102, 108, 101, 99, 116] : List UInt8)) = false := by decide
      have f6 : decide (([114, 101, 110, 100, 101, 114] : List UInt8) = ([97, 108, 108] : List UInt8)) = false := by decide
      have f7 : decide (([114, 101, 110, 100, 101, 114] : List UInt8) = ([114, 101, 112, 108, 97, 121] : List UInt8)) = false := by decide
      have f8 : decide (([114, 101, 110, 100, 101, 114] : List UInt8) = ([103, 101, 110, 101, 114, 97, 116, 101] : List UInt8)) = false := by decide
      have f9 : decide (([114, 101, 110, 100, 101, 114] : List UInt8) = ([115, 99, 114, 105, 112, 116] : List UInt8)) = false := by decide
      have f10 : decide (([114, 101, 110, 100, 101, 114] : List UInt8) = ([101, 110, 117, 109] : List UInt8)) = false := by decide
      have f11 : decide (([114, 101, 110, 100, 101, 114] : List UInt8) = ([115, 104, 114, 105, 110, 107] : List UInt8)) = false := by decide
      have f12 : decide (([114, 101, 110, 100, 101, 114] : List UInt8) = ([109, 117, 116, 97, 116, 101] : List UInt8)) = false := by decide
      have f13 : decide (([114, 101, 110, 100, 101, 114] : List UInt8) = ([114, 101, 110, 100, 101, 114] : List UInt8)) = true := by decide
      have f14 : decide (([114, 101, 110, 100, 101, 114] : List UInt8) = ([102, 97, 105, 108, 115] : List UInt8)) = false := by decide
      have f15 : decide (([114, 101, 110, 100, 101, 114] : List UInt8) = ([100, 114, 97, 119, 115] : List UInt8)) = false := by decide
      have f16 : decide (([114, 101, 110, 100, 101, 114] : List UInt8) = ([100, 114, 111, 112] : List UInt8)) = false := by decide
      have f17 : decide (([114, 101, 110, 100, 101, 114] : List UInt8) = ([108, 105, 110, 101, 115] : List UInt8)) = false := by decide
      have f18 : decide (([114, 101, 110, 100, 101, 114] : List UInt8) = ([99, 111, 112, 121] : List UInt8)) = false := by decide
      have f19 : decide (([114, 101, 110, 100, 101, 114] : List UInt8) = ([108, 105, 115, 116] : List UInt8)) = false := by decide
      have f20 : decide (([114, 101, 110, 100, 101, 114] : List UInt8) = ([115, 104, 111, 119] : List UInt8)) = false := by decide
      simp (implicitDefEqProofs := false) (disch := omega) only [go_sem, simprocAttr, go_sem, Nat.le_refl, Int.toNat_natCast, Int.toNat_zero, Int.toNat_one, str_eq, sz_bA, tl_bA, Tryd.results28, f0, f1, f2, f3, f4, f5, f6, f7, f8, f9, f10, f11, f12, f13, f14, f15, f16, f17, f18, f19, f20]
      first | done | rfl
    · have f0 : decide (([102, 97, 105, 108, 115] : List UInt8) = ([108, 111, 97, 100] : List UInt8)) = false := by decide
      have f1 : decide (([102, 97, 105, 108, 115] : List UInt8) = ([111, 114, 97, 99, 108, 101] : List UInt8)) = false := by decide
      have f2 : decide (([102, 97, 105, 108, 115] : List UInt8) = ([105, 109, 112, 111, 114, 116] : List UInt8)) = false := by decide
      have f3 : decide (([102, 97, 105, 108, 115] : List UInt8) = ([103, 101, 116] : List UInt8)) = false := by decide
      have f4 : decide (([102, 97, 105, 108, 115] : List UInt8) = ([99, 104, 101, 99, 107] : List UInt8)) = false := by decide
      have f5 : decide (([102, 97, 105, 108, 115] : List UInt8) = ([114, 101, 102, 108, 101, 99, 116] : List UInt8)) = false := by decide
      have f6 : decide (([102, 97, 105, 108, 115] : List UInt8) = ([97, 108, 108] : List UInt8)) = false := by decide
      have f7 : decide (([102, 97, 105, 108, 115] : List UInt8) = ([114, 101, 112, 108, 97, 121] : List UInt8)) = false := by decide
      have f8 : decide (([102, 97, 105, 108, 115] : List UInt8) = ([103, 101, 110, 101, 114, 97, 116, 101] : List UInt8)) = false := by decide
      have f9 : decide (([102, 97, 105, 108, 115] : List UInt8) = ([115, 99, 114, 105, 112, 116] : List UInt8)) = false := by decide
      have f10 : decide (([102, 97, 105, 108, 115] : List UInt8) = ([101, 110, 117, 109] : List UInt8)) = false := by decide
      have f11 : decide (([102, 97, 105, 108, 115] : List UInt8) = ([115, 104, 114, 105, 110, 107] : List UInt8)) = false := by decide
      have f12 : decide (([102, 97, 105, 108, 115] : List UInt8) = ([109, 117, 116, 97, 116, 101] : List UInt8)) = false := by decide
      have f13 : decide (([102, 97, 105, 108, 115] : List UInt8) = ([114, 101, 110, 100, 101, 114] : List UInt8)) = false := by decide
      have f14 : decide (([102, 97, 105, 108, 115] : List UInt8) = ([102, 97, 105, 108, 115] : List UInt8)) = true := by decide
      have f15 : decide (([102, 97, 105, 108, 115] : List UInt8) = ([100, 114, 97, 119, 115] : List UInt8)) = false := by decide
      have f16 : decide (([102, 97, 105, 108, 115] : List UInt8) = ([100, 114, 111, 112] : List UInt8)) = false := by decide
      have f17 : decide (([102, 97, 105, 108, 115] : List UInt8) = ([108, 105, 110, 101, 115] : List UInt8)) = false := by decide
      have f18 : decide (([102, 97, 105, 108, 115] : List UInt8) = ([99, 111, 112, 121] : List UInt8)) = false := by decide
      have f19 : decide (([102, 97, 105, 108, 115] : List UInt8) = ([108, 105, 115, 116] : List UInt8)) = false := by decide
      have f20 : decide (([102, 97, 105, 108, 115] : List UInt8) = ([115, 104, 111, 119] : List UInt8)) = false := by decide
      simp (implicitDefEqProofs := false) (disch := omega) only [go_sem, simprocAttr, go_sem, Nat.le_refl, Int.toNat_natCast, Int.toNat_zero, Int.toNat_one, str_eq, sz_bA, tl_bA, Tryd.results28, f0, f1, f2, f3, f4, f5, f6, f7, f8, f9, f10, f11, f12, f13, f14, f15, f16, f17, f18, f19, f20]
      first | done | rfl
    · have f0 : decide (([100, 114, 97, 119, 115] : List UInt8) = ([108, 111, 97, 100] : List UInt8)) = false := by decide
      have f1 : decide (([100, 114, 97, 119, 115] : List UInt8) = ([111, 114, 97, 99, 108, 101] : List UInt8)) = false := by decide
      have f2 : decide (([100, 114, 97, 119, 115] : List UInt8) = ([105, 109, 112, 111, 114, 116] : List UInt8)) = false := by decide
      have f3 : decide (([100, 114, 97, 119, 115] : List UInt8) = ([103, 101, 116] : List UInt8)) = false := by decide
      have f4 : decide (([100, 114, 97, 119, 115] : List UInt8) = ([99, 104, 101, 99, 107] : List UInt8)) = false := by decide
      have f5 : decide (([100, 114, 97, 119, 115] : List UInt8) = ([114, 101, 102, 108, 101, 99, 116] : List UInt8)) = false := by decide
      have f6 : decide (([100, 114, 97, 119, 115] : List UInt8) = ([97, 108, 108] : List UInt8)) = false := by decide
      have f7 : decide (([100, 114, 97, 119, 115] : List UInt8) = ([114, 101, 112, 108, 97, 121] : List UInt8)) = false := by decide
      have f8 : decide (([100, 114, 97, 119, 115] : List UInt8) = ([103, 101, 110, 101, 114, 97, 116, 101] : List UInt8)) = false := by decide
      have f9 : decide (([100, 114, 97, 119, 115] : List UInt8) = ([115, 99, 114, 105, 112, 116] : List UInt8)) = false := by decide
      have f10 : decide (([100, 114, 97, 119, 115] : List UInt8) = ([101, 110, 117, 109] : List UInt8)) = false := by decide
      have f11 : decide (([100, 114, 97, 119, 115] : List UInt8) = ([115, 104, 114, 105, 110, 107] : List UInt8)) = false := by decide
      have f12 : decide (([100, 114, 97, 119, 115] : List UInt8) = ([109, 117, 116, 97, 116, 101] : List UInt8)) = false := by decide
      have f13 : decide (([100, 114, 97, 119, 115] : List UInt8) = ([114, 101, 110, 100, 101, 114] : List UInt8)) = false := by decide
      have f14 : decide (([100, 114, 97, 119, 115] : List UInt8) = ([102, 97, 105, 108, 115] : List UInt8)) = false := by decide
      have f15 : decide (([100, 114, 97, 119, 115] : List UInt8) = ([100, 114, 97, 119, 115] : List UInt8)) = true := by decide
      have f16 : decide (([100, 114, 97, 119, 115] : List UInt8) = ([100, 114, 111, 112] : List UInt8)) = false := by decide
      have f17 : decide (([100, 114, 97, 119, 115] : List UInt8) = ([108, 105, 110, 101, 115] : List UInt8)) = false := by decide
      have f18 : decide (([100, 114, 97, 119, 115] : List UInt8) = ([99, 111, 112, 121] : List UInt8)) = false := by decide
      have f19 : decide (([100, 114, 97, 119, 115] : List UInt8) = ([108, 105, 115, 116] : List UInt8)) = false := by decide
      have f20 : decide (([100, 114, 97, 119, 115] : List UInt8) = ([115, 104, 111, 119] : List UInt8)) = false := by decide
      simp (implicitDefEqProofs := false) (disch := omega) only [go_sem, simprocAttr, go_sem, Nat.le_refl, Int.toNat_natCast, Int.toNat_zero, Int.toNat_one, str_eq, sz_bA, tl_bA, Tryd.results28, f0, f1, f2, f3, f4, f5, f6, f7, f8, f9, f10, f11, f12, f13, f14, f15, f16, f17, f18, f19, f20]
      first | done | rfl
    · have f0 : decide (([100, 114, 111, 112] : List UInt8) = ([108, 111, 97, 100] : List UInt8)) = false := by decide
      have f1 : decide (([100, 114, 111, 112] : List UInt8) = ([111, 114, 97, 99, 108, 101] : List UInt8)) = false := by decide
      have f2 : decide (([100, 114, 111, 112] : List UInt8) = ([105, 109, 112, 111, 114, 116] : List UInt8)) = false := by decide
      have f3 : decide (([100, 114, 111, 112] : List UInt8) = ([103, 101, 116] : List UInt8)) = false := by decide
      have f4 : decide (([100, 114, 111, 112] : List UInt8) = ([99, 104, 101, 99, 107] : List UInt8)) = false := by decide
      have f5 : decide (([100, 114, 111, 112] : List UInt8) = ([114, 101, 102, 108, 101, 99, 116] : List UInt8)) = false := by decide
      have f6 : decide (([100, 114, 111, 112] : List UInt8) = ([97, 108, 108] : List UInt8)) = false := by decide
      have f7 : decide (([100, 114, 111, 112] : List UInt8) = ([114, 101, 112, 108, 97, 121] : List UInt8)) = false := by decide
      have f8 : decide (([100, 114, 111, 112] : List UInt8) = ([103, 101, 110, 101, 114, 97, 116, 101] : List UInt8)) = false := by decide
      have f9 : decide (([100, 114, 111, 112] : List UInt8) = ([115, 99, 114, 105, 112, 116] : List UInt8)) = false := by decide
      have f10 : decide (([100, 114, 111, 112] : List UInt8) = ([101, 110, 117, 109] : List UInt8)) = false := by decide
      have f11 : decide (([100, 114, 111, 112] : List UInt8) = ([115, 104, 114, 105, 110, 107] : List UInt8)) = false := by decide
      have f12 : decide (([100, 114, 111, 112] : List UInt8) = ([109, 117, 116, 97, 116, 101] : List UInt8)) = false := by decide
      have f13 : decide (([100, 114, 111, 112] : List UInt8) = ([114, 101, 110, 100, 101, 114] : List UInt8)) = false := by decide
      have f14 : decide (([100, 114, 111, 112] : List UInt8) = ([102, 97, 105, 108, 115] : List UInt8)) = false := by decide
      have f15 : decide (([100, 114, 111, 112] : List UInt8) = ([100, 114, 97, 119, 115] : List UInt8)) = false := by decide
      have f16 : decide (([100, 114, 111, 112] : List UInt8) = ([100, 114, 111, 112] : List UInt8)) = true := by decide
      have f17 : decide (([100, 114, 111, 112] : List UInt8) = ([108, 105, 110, 101, 115] : List UInt8)) = false := by decide
      have f18 : decide (([100, 114, 111, 112] : List UInt8) = ([99, 111, 112, 121] : List UInt8)) = false := by decide
      have f19 : decide (([100, 114, 111, 112] : List UInt8) = ([108, 105, 115, 116] : List UInt8)) = false := by decide
      have f20 : decide (([100, 114, 111, 112] : List UInt8) = ([115, 104, 111, 119] : List UInt8)) = false := by decide
      simp (implicitDefEqProofs := false) (disch := omega) only [go_sem, simprocAttr, go_sem, Nat.le_refl, Int.toNat_natCast, Int.toNat_zero, Int.toNat_one, str_eq, sz_bA, tl_bA, Tryd.results28, f0, f1, f2, f3, f4, f5, f6, f7, f8, f9, f10, f11, f12, f13, f14, f15, f16, f17, f18, f19, f20]
      first | done | rfl
    · have f0 : decide (([108, 105, 110, 101, 115] : List UInt8) = ([108, 111, 97, 100] : List UInt8)) = false := by decide
      have f1 : decide (([108, 105, 110, 101, 115] : List UInt8) = ([111, 114, 97, 99, 108, 101] : List UInt8)) = false := by decide
      have f2 : decide (([108, 105, 110, 101, 115] : List UInt8) = ([105, 109, 112, 111, 114, 116] : List UInt8)) = false := by decide
      have f3 : decide (([108, 105, 110, 101, 115] : List UInt8) = ([103, 101, 116] : List UInt8)) = false := by decide
      have f4 : decide (([108, 105, 110, 101, 115] : List UInt8) = ([99, 104, 101, 99, 107] : List UInt8)) = false := by decide
      have f5 : decide (([108, 105, 110, 101, 115] : List UInt8) = ([114, 101, 102, 108, 101, 99, 116] : List UInt8)) = false := by decide
      have f6 : decide (([108, 105, 110, 101, 115] : List UInt8) = ([97, 108, 108] : List UInt8)) = false := by decide
      have f7 : decide (([108, 105, 110, 101, 115] : List UInt8) = ([114, 101, 112, 108, 97, 121] : List UInt8)) = false := by decide
      have f8 : decide (([108, 105, 110, 101, 115] : List UInt8) = ([103, 101, 110, 101, 114, 97, 116, 101] : List UInt8)) = false := by decide
      have f9 : decide (([108, 105, 110, 101, 115] : List UInt8) = ([115, 99, 114, 105, 112, 116] : List UInt8)) = false := by decide
      have f10 : decide (([108, 105, 110, 101, 115] : List UInt8) = ([101, 110, 117, 109] : List UInt8)) = false := by decide
      have f11 : decide (([108, 105, 110, 101, 115] : List UInt8) = ([115, 104, 114, 105, 110, 107] : List UInt8)) = false := by decide
      have f12 : decide (([108, 105, 110, 101, 115] : List UInt8) = ([109, 117, 116, 97, 116, 101] : List UInt8)) = false := by decide
      have f13 : decide (([108, 105, 110, 101, 115] : List UInt8) = ([114, 101, 110, 100, 101, 114] : List UInt8)) = false := by decide
      have f14 : decide (([108, 105, 110, 101, 115] : List UInt8) = ([102, 97, 105, 108, 115] : List UInt8)) = false := by decide
      have f15 : decide (([108, 105, 110, 101, 115] : List UInt8) = ([100, 114, 97, 119, 115] : List UInt8)) = false := by decide
      have f16 : decide (([108, 105, 110, 101, 115] : List UInt8) = ([100, 114, 111, 112] : List UInt8)) = false := by decide
      have f17 : decide (([108, 105, 110, 101, 115] : List UInt8) = ([108, 105, 110, 101, 115] : List UInt8)) = true := by decide
      have f18 : decide (([108, 105, 110, 101, 115] : List UInt8) = ([99, 111, 112, 121] : List UInt8)) = false := by decide
      have f19 : decide (([108, 105, 110, 101, 115] : List UInt8) = ([108, 105, 115, 116] : List UInt8)) = false := by decide
      have f20 : decide (([108, 105, 110, 101, 115] : List UInt8) = ([115, 104, 111, 119] : List UInt8)) = false := by decide
      simp (implicitDefEqProofs := false) (disch := omega) only [go_sem, simprocAttr, go_sem, Nat.le_refl, Int.toNat_natCast, Int.toNat_zero, Int.toNat_one, str_eq, sz_bA, tl_bA, Tryd.results28, f0, f1, f2, f3, f4, f5, f6, f7, f8, f9, f10, f11, f12, f13, f14, f15, f16, f17, f18, f19, f20]
      first | done | rfl
    · have f0 : decide (([99, 111, 112, 121] : List UInt8) = ([108, 111, 97, 100] : List UInt8)) = false := by decide
      have f1 : decide (([99, 111, 112, 121] : List UInt8) = ([111, 114, 97, 99, 108, 101] : List UInt8)) = false := by decide
      have f2 : decide (([99, 111, 112, 121] : List UInt8) = ([105, 109, 112, 111, 114, 116] : List UInt8)) = false := by decide
      have f3 : decide (([99, 111, 112, 121] : List UInt8) = ([103, 101, 116] : List UInt8)) = false := by decide
      have f4 : decide (([99, 111, 112, 121] : List UInt8) = ([99, 104, 101, 99, 107] : List UInt8)) = false := by decide
      have f5 : decide (([99, 111, 112, 121] : List UInt8) = ([114, 101, 102, 108, 101, 99, 116] : List UInt8)) = false := by decide
      have f6 : decide (([99, 111, 112, 121] : List UInt8) = ([97, 108, 108] : List UInt8)) = false := by decide
      have f7 : decide (([99, 111, 112, 121] : List UInt8) = ([114, 101, 112, 108, 97, 121] : List UInt8)) = false := by decide
      have f8 : decide (([99, 111, 112, 121] : List UInt8) = ([103, 101, 110, 101, 114, 97, 116, 101] : List UInt8)) = false := by decide
      have f9 : decide (([99, 111, 112, 121] : List UInt8) = ([115, 99, 114, 105, 112, 116] : List UInt8)) = false := by decide
      have f10 : decide (([99, 111, 112, 121] : List UInt8) = ([101, 110, 117, 109] : List UInt8)) = false := by decide
      have f11 : decide (([99, 111, 112, 121] : List UInt8) = ([115, 104, 114, 105, 110, 107] : List UInt8)) = false := by decide
      have f12 : decide (([99, 111, 112, 121] : List UInt8) = ([109, 117, 116, 97, 116, 101] : List UInt8)) = false := by decide
      have f13 : decide (([99, 111, 112, 121] : List UInt8) = ([114, 101, 110, 100, 101, 114] : List UInt8)) = false := by decide
      have f14 : decide (([99, 111, 112, 121] : List UInt8) = ([102, 97, 105, 108, 115] : List UInt8)) = false := by decide
      have f15 : decide (([99, 111, 112, 121] : List UInt8) = ([100, 114, 97, 119, 115] : List UInt8)) = false := by decide
      have f16 : decide (([99, 111, 112, 121] : List UInt8) = ([100, 114, 111, 112] : List UInt8)) = false := by decide
      have f17 : decide (([99, 111, 112, 121] : List UInt8) = ([108, 105, 110, 101, 115] : List UInt8)) = false := by decide
      have f18 : decide (([99, 111, 112, 121] : List UInt8) = ([99, 111, 112, 121] : List UInt8)) = true := by decide
      have f19 : decide (([99, 111, 112, 121] : List UInt8) = ([108, 105, 115, 116] : List UInt8)) = false := by decide
      have f20 : decide (([99, 111, 112, 121] : List UInt8) = ([115, 104, 111, 119] : List UInt8)) = false := by decide
      simp (implicitDefEqProofs := false) (disch := omega) only [go_sem, simprocAttr, go_sem, Nat.le_refl, Int.toNat_natCast, Int.toNat_zero, Int.toNat_one, str_eq, sz_bA, tl_bA, Tryd.results28, f0, f1, f2, f3, f4, f5, f6, f7, f8, f9, f10, f11, f12, f13, f14, f15, f16, f17, f18, f19, f20]
      first | done | rfl
    · have f0 : decide (([108, 105, 115, 116] : List UInt8) = ([108, 111, 97, 100] : List UInt8)) = false := by decide
      have f1 : decide (([108, 105, 115, 116] : List UInt8) = ([111, 114, 97, 99, 108, 101] : List UInt8)) = false := by decide
      have f2 : decide (([108, 105, 115, 116] : List UInt8) = ([105, 109, 112, 111, 114, 116] : List UInt8)) = false := by decide
      have f3 : decide (([108, 105, 115, 116] : List UInt8) = ([103, 101, 116] : List UInt8)) = false := by decide
      have f4 : decide (([108, 105, 115, 116] : List UInt8) = ([99, 104, 101, 99, 107] : List UInt8)) = false := by decide
      have f5 : decide (([108, 105, 115, 116] : List UInt8) = ([114, 101, 102, 108, 101, 99, 116] : List UInt8)) = false := by decide
      have f6 : decide (([108, 105, 115, 116] : List UInt8) = ([97, 108, 108] : List UInt8)) = false := by decide
      have f7 : decide (([108, 105, 115, 116] : List UInt8) = ([114, 101, 112, 108, 97, 121] : List UInt8)) = false := by decide
      have f8 : decide (([108, 105, 115, 116] : List UInt8) = ([103, 101, 110, 101, 114, 97, 116, 101] : List UInt8)) = false := by decide
      have f9 : decide (([108, 105, 115, 116] : List UInt8) = ([115, 99, 114, 105, 112, 116] : List UInt8)) = false := by decide
      have f10 : decide (([108, 105, 115, 116] : List UInt8) = ([101, 110, 117, 109] : List UInt8)) = false := by decide
      have f11 : decide (([108, 105, 115, 116] : List UInt8) = ([115, 104, 114, 105, 110, 107] : List UInt8)) = false := by decide
      have f12 : decide (([108, 105, 115, 116] : List UInt8) = ([109, 117, 116, 97, 116, 101] : List UInt8)) = false := by decide
      have f13 : decide (([108, 105, 115, 116] : List UInt8) = ([114, 101, 110, 100, 101, 114] : List UInt8)) = false := by decide
      have f14 : decide (([108, 105, 115, 116] : List UInt8) = ([102, 97, 105, 108, 115] : List UInt8)) = false := by decide
      have f15 : decide (([108, 105, 115, 116] : List UInt8) = ([100, 114, 97, 119, 115] : List UInt8)) = false := by decide
      have f16 : decide (([108, 105, 115, 116] : List UInt8) = ([100, 114, 111, 112] : List UInt8)) = false := by decide
      have f17 : decide (([108, 105, 115, 116] : List UInt8) = ([108, 105, 110, 101, 115] : List UInt8)) = false := by decide
      have f18 : decide (([108, 105, 115, 116] : List UInt8) = ([99, 111, 112, 121] : List UInt8)) = false := by decide
      have f19 : decide (([108, 105, 115, 116] : List UInt8) = ([108, 105, 115, 116] : List UInt8)) = true := by decide
      have f20 : decide (([108, 105, 115, 116] : List UInt8) = ([115, 104, 111, 119] : List UInt8)) = false := by decide
      simp (implicitDefEqProofs := false) (disch := omega) only [go_sem, simprocAttr, go_sem, Nat.le_refl, Int.toNat_natCast, Int.toNat_zero, Int.toNat_one, str_eq, sz_bA, tl_bA, Tryd.results28, f0, f1, f2, f3, f4, f5, f6, f7, f8, f9, f10, f11, f12, f13, f14, f15, f16, f17, f18, f19, f20]
      first | done | rfl
    · have f0 : decide (([115, 104, 111, 119] : List UInt8) = ([108, 111, 97, 100] : List UInt8)) = false := by decide
      have f1 : decide (([115, 104, 111, 119] : List UInt8) = ([111, 114, 97, 99, 108, 101] : List UInt8)) = false := by decide
      have f2 : decide (([115, 104, 111, 119] : List UInt8) = ([105, 109, 112, 111, 114, 116] : List UInt8)) = false := by decide
      have f3 : decide (([115, 104, 111, 119] : List UInt8) = ([103, 101, 116] : List UInt8)) = false := by decide
      have f4 : decide (([115, 104, 111, 119] : List UInt8) = ([99, 104, 101, 99, 107] : List UInt8)) = false := by decide
      have f5 : decide (([115, 104, 111, 119] : List UInt8) = ([114, 101, 102, 108, 101, 99, 116] : List UInt8)) = false := by decide
      have f6 : decide (([115, 104, 111, 119] : List UInt8) = ([97, 108, 108] : List UInt8)) = false := by decide
      have f7 : decide (([115, 104, 111, 119] : List UInt8) = ([114, 101, 112, 108, 97, 121] : List UInt8)) = false := by decide
      have f8 : decide (([115, 104, 111, 119] : List UInt8) = ([103, 101, 110, 101, 114, 97, 116, 101] : List UInt8)) = false := by decide
      have f9 : decide (([115, 104, 111, 119] : List UInt8) = ([115, 99, 114, 105, 112, 116] : List UInt8)) = false := by decide
      have f10 : decide (([115, 104, 111, 119] : List UInt8) = ([101, 110, 117, 109] : List UInt8)) = false := by decide
      have f11 : decide (([115, 104, 111, 119] : List UInt8) = ([115, 104, 114, 105, 110, 107] : List UInt8)) = false := by decide
      have f12 : decide (([115, 104, 111, 119] : List UInt8) = ([109, 117, 116, 97, 116, 101] : List UInt8)) = false := by decide
      have f13 : decide (([115, 104, 111, 119] : List UInt8) = ([114, 101, 110, 100, 101, 114] : List UInt8)) = false := by decide
      have f14 : decide (([115, 104, 111, 119] : List UInt8) = ([102, 97, 105, 108, 115] : List UInt8)) = false := by decide
      have f15 : decide (([115, 104, 111, 119] : List UInt8) = ([100, 114, 97, 119, 115] : List UInt8)) = false := by decide
      have f16 : decide (([115, 104, 111, 119] : List UInt8) = ([100, 114, 111, 112] : List UInt8)) = false := by decide
      have f17 : decide (([115, 104, 111, 119] : List UInt8) = ([108, 105, 110, 101, 115] : List UInt8)) = false := by decide
      have f18 : decide (([115, 104, 111, 119] : List UInt8) = ([99, 111, 112, 121] : List UInt8)) = false := by decide
      have f19 : decide (([115, 104, 111, 119] : List UInt8) = ([108, 105, 115, 116] : List UInt8)) = false := by decide
      have f20 : decide (([115, 104, 111, 119] : List UInt8) = ([115, 104, 111, 119] : List UInt8)) = true := by decide
      simp (implicitDefEqProofs := false) (disch := omega) only [go_sem, simprocAttr, go_sem, Nat.le_refl, Int.toNat_natCast, Int.toNat_zero, Int.toNat_one, str_eq, sz_bA, tl_bA, Tryd.results28, f0, f1, f2, f3, f4, f5, f6, f7, f8, f9, f10, f11, f12, f13, f14, f15, f16, f17, f18, f19, f20]
      first | done | rfl
set_option maxHeartbeats 4000000 in
theorem asks_ok (l : List UInt8) : Ok Tryd.prog 13 [vS (bA l)] (askP (asks l)) := by
  refine Ok.of_pwp (by kernel_rfl) Tryd.func13 rfl (by kernel_rfl) (by kernel_rfl) ?_
  cases h : asks l with
  | none =>
    have g := asks_none h
    unfold words at g
    simp only [List.forall_mem_cons] at g
    obtain ⟨f0, f1, f2, f3, f4, f5, f6, f7, f8, f9, f10, f11, f12, f13, f14, f15, f16, f17, f18, f19, f20, _⟩ := g
    simp (implicitDefEqProofs := false) (disch := omega) only [go_sem, simprocAttr, go_sem, Nat.le_refl, Int.toNat_natCast, Int.toNat_zero, Int.toNat_one, str_eq, sz_bA, tl_bA, Tryd.results13, f0, f1, f2, f3, f4, f5, f6, f7, f8, f9, f10, f11, f12, f13, f14, f15, f16, f17, f18, f19, f20]
    first | done | rfl
  | some q =>
    have g := asks_some h
    unfold words at g
    simp only [List.mem_cons, List.not_mem_nil, or_false, Prod.mk.injEq] at g
    rcases g with ⟨rfl, rfl⟩ | ⟨rfl, rfl⟩ | ⟨rfl, rfl⟩ | ⟨rfl, rfl⟩ | ⟨rfl, rfl⟩ | ⟨rfl, rfl⟩ | ⟨rfl, rfl⟩ | ⟨rfl, rfl⟩ | ⟨rfl, rfl⟩ | ⟨rfl, rfl⟩ | ⟨rfl, rfl⟩ | ⟨rfl, rfl⟩ | ⟨rfl, rfl⟩ | ⟨rfl, rfl⟩ | ⟨rfl, rfl⟩ | ⟨rfl, rfl⟩ | ⟨rfl, rfl⟩ | ⟨rfl, rfl⟩ | ⟨rfl, rfl⟩ | ⟨rfl, rfl⟩ | ⟨rfl, rfl⟩
    · have f0 : decide (([108, 111, 97, 100] : List UInt8) = ([108, 111, 97, 100] : List UInt8)) = true := by decide
      have f1 : decide (([108, 111, 97, 100] : List UInt8) = ([111, 114, 97, 99, 108, 101] : List UInt8)) = false := by decide
      have f2 : decide (([108, 111, 97, 100] : List UInt8) = ([105, 109, 112, 111, 114, 116] : List UInt8)) = false := by decide
      have f3 : decide (([108, 111, 97, 100] : List UInt8) = ([103, 101, 116] : List UInt8)) = false := by decide
      have f4 : decide (([108, 111, 97, 100] : List UInt8) = ([99, 104, 101, 99, 107] : List UInt8)) = false := by decide
      have f5 : decide (([108, 111, 97, 100] : List UInt8) = ([114, 101, 102, 108, 101, 99, 116] : List UInt8)) = false := by decide
      have f6 : decide (([108, 111, 97, 100] : List UInt8) = ([97, 108, 108] : List UInt8)) = false := by decide
      have f7 : decide (([108, 111, 97, 100] : List UInt8) = ([114, 101, 112, 108, 97, 121] : List UInt8)) = false := by decide
      have f8 : decide (([108, 111, 97, 100] : List UInt8) = ([103, 101, 110, 101, 114, 97, 116, 101] : List UInt8)) = false := by decide
      have f9 : decide (([108, 111, 97, 100] : List UInt8) = ([115, 99, 114, 105, 112, 116] : List UInt8)) = false := by decide
      have f10 : decide (([108, 111, 97, 100] : List UInt8) = ([101, 110, 117, 109] : List UInt8)) = false := by decide
      have f11 : decide (([108, 111, 97, 100] : List UInt8) = ([115, 104, 114, 105, 110, 107] : List UInt8)) = false := by decide
      have f12 : decide (([108, 111, 97, 100] : List UInt8) = ([109, 117, 116, 97, 116, 101] : List UInt8)) = false := by decide
      have f13 : decide (([108, 111, 97, 100] : List UInt8) = ([114, 101, 110, 100, 101, 114] : List UInt8)) = false := by decide
      have f14 : decide (([108, 111, 97, 100] : List UInt8) = ([102, 97, 105, 108, 115] : List UInt8)) = false := by decide
      have f15 : decide (([108, 111, 97, 100] : List UInt8) = ([100, 114, 97, 119, 115] : List UInt8)) = false := by decide
      have f16 : decide (([108, 111, 97, 100] : List UInt8) = ([100, 114, 111, 112] : List UInt8)) = false := by decide
      have f17 : decide (([108, 111, 97, 100] : List UInt8) = ([108, 105, 110, 101, 115] : List UInt8)) = false := by decide
      have f18 : decide (([108, 111, 97, 100] : List UInt8) = ([99, 111, 112, 121] : List UInt8)) = false := by decide
      have f19 : decide (([108, 111, 97, 100] : List UInt8) = ([108, 105, 115, 116] : List UInt8)) = false := by decide
      have f20 : decide (([108, 111, 97, 100] : List UInt8) = ([115, 104, 111, 119] : List UInt8)) = false := by decide
      simp (implicitDefEqProofs := false) (disch := omega) only [go_sem, simprocAttr, go_sem, Nat.le_refl, Int.toNat_natCast, Int.toNat_zero, Int.toNat_one, str_eq, sz_bA, tl_bA, Tryd.results13, f0, f1, f2, f3, f4, f5, f6, f7, f8, f9, f10, f11, f12, f13, f14, f15, f16, f17, f18, f19, f20]
      first | done | rfl
    · have f0 : decide (([111, 114, 97, 99, 108, 101] : List UInt8) = ([108, 111, 97, 100] : List UInt8)) = false := by decide
      have f1 : decide (([111, 114, 97, 99, 108, 101] : List UInt8) = ([111, 114, 97, 99, 108, 101] : List UInt8)) = true := by decide
      have f2 : decide (([111, 114, 97, 99, 108, 101] : List UInt8) = ([105, 109, 112, 111, 114, 116] : List UInt8)) = false := by decide
      have f3 : decide (([111, 114, 97, 99, 108, 101] : List UInt8) = ([103, 101, 116] : List UInt8)) = false := by decide
      have f4 : decide (([111, 114, 97, 99, 108, 101] : List UInt8) = ([99, 104, 101, 99, 107] : List UInt8)) = false := by decide
      have f5 : decide (([111, 114, 97, 99, 108, 101] : List UInt8) = ([114, 101, 102, 108, 101, 99, 116] : List UInt8)) = false := by decide
      have f6 : decide (([111, 114, 97, 99, 108, 101] : List UInt8) = ([97, 108, 108] : List UInt8)) = false := by decide
      have f7 : decide (([111, 114, 97, 99, 108, 101] : List UInt8) = ([114, 101, 112, 108, 97, 121] : List UInt8)) = false := by decide
      have f8 : decide (([111, 114, 97, 99, 108, 101] : List UInt8) = ([103, 101, 110, 101, 114, 97, 116, 101] : List UInt8)) = false := by decide
      have f9 : decide (([111, 114, 97, 99, 108, 101] : List UInt8) = ([115, 99, 114, 105, 112, 116] : List UInt8)) = false := by decide
      have f10 : decide (([111, 114, 97, 99, 108, 101] : List UInt8) = ([101, 110, 117, 109] : List UInt8)) = false := by decide
      have f11 : decide (([111, 114, 97, 99, 108, 101] : List UInt8) = ([115, 104, 114, 105, 110, 107] : List UInt8)) = false := by decide
      have f12 : decide (([111, 114, 97, 99, 108, 101] : List UInt8) = ([109, 117, 116, 97, 116, 101] : List UInt8)) = false := by decide
      have f13 : decide (([111, 114, 97, 99, 108, 101] : List UInt8) = ([114, 101, 110, 100, 101, 114] : List UInt8)) = false := by decide
      have f14 : decide (([111, 114, 97, 99, 108, 101] : List UInt8) = ([102, 97, 105, 108, 115] : List UInt8)) = false := by decide
      have f15 : decide (([111, 114, 97, 99, 108, 101] : List UInt8) = ([100, 114, 97, 119, 115] : List UInt8)) = false := by decide
      have f16 : decide (([111, 114, 97, 99, 108, 101] : List UInt8) = ([100, 114, 111, 112] : List UInt8)) = false := by decide
      have f17 : decide (([111, 114, 97, 99, 108, 101] : List UInt8) = ([108, 105, 110, 101, 115] : List UInt8)) = false := by decide
      have f18 : decide (([111, 114, 97, 99, 108, 101] : List UInt8) = ([99, 111, 112, 121] : List UInt8)) = false := by decide
      have f19 : decide (([111, 114, 97, 99, 108, 101] : List UInt8) = ([108, 105, 115, 116] : List UInt8)) = false := by decide
      have f20 : decide (([111, 114, 97, 99, 108, 101] : List UInt8) = ([115, 104, 111, 119] : List UInt8)) = false := by decide
      simp (implicitDefEqProofs := false) (disch := omega) only [go_sem, simprocAttr, go_sem, Nat.le_refl, Int.toNat_natCast, Int.toNat_zero, Int.toNat_one, str_eq, sz_bA, tl_bA, Tryd.results13, f0, f1, f2, f3, f4, f5, f6, f7, f8, f9, f10, f11, f12, f13, f14, f15, f16, f17, f18, f19, f20]
      first | done | rfl
    · have f0 : decide (([105, 109, 112, 111, 114, 116] : List UInt8) = ([108, 111, 97, 100] : List UInt8)) = false := by decide
      have f1 : decide (([105, 109, 112, 111, 114, 116] : List UInt8) = ([111, 114, 97, 99, 108, 101] : List UInt8)) = false := by decide
      have f2 : decide (([105, 109, 112, 111, 114, 116] : List UInt8) = ([105, 109, 112, 111, 114, 116] : List UInt8)) = true := by decide
      have f3 : decide (([105, 109, 112, 111, 114, 116] : List UInt8) = ([103, 101, 116] : List UInt8)) = false := by decide
      have f4 : decide (([105, 109, 112, 111, 114, 116] : List UInt8) = ([99, 104, 101, 99, 107] : List UInt8)) = false := by decide
      have f5 : decide (([105, 109, 112, 111, 114, 116] : List UInt8) = ([114, 101, 102, 108, 101, 99, 116] : List UInt8)) = false := by decide
      have f6 : decide (([105, 109, 112, 111, 114, 116] : List UInt8) = ([97, 108, 108] : List UInt8)) = false := by decide
      have f7 : decide (([105, 109, 112, 111, 114, 116] : List UInt8) = ([114, 101, 112, 108, 97, 121] : List UInt8)) = false := by decide
      have f8 : decide (([105, 109, 112, 111, 114, 116] : List UInt8) = ([103, 101, 110, 101, 114, 97, 116, 101] : List UInt8)) = false := by decide
      have f9 : decide (([105, 109, 112, 111, 114, 116] : List UInt8) = ([115, 99, 114, 105, 112, 116] : List UInt8)) = false := by decide
      have f10 : decide (([105, 109, 112, 111, 114, 116] : List UInt8) = ([101, 110, 117, 109] : List UInt8)) = false := by decide
      have f11 : decide (([105, 109, 112, 111, 114, 116] : List UInt8) = ([115, 104, 114, 105, 110, 107] : List UInt8)) = false := by decide
      have f12 : decide (([105, 109, 112, 111, 114, 116] : List UInt8) = ([109, 117, 116, 97, 116, 101] : List UInt8)) = false := by decide
      have f13 : decide (([105, 109, 112, 111, 114, 116] : List UInt8) = ([114, 101, 110, 100, 101, 114] : List UInt8)) = false := by decide
      have f14 : decide (([105, 109, 112, 111, 114, 116] : List UInt8) = ([102, 97, 105, 108, 115] : List UInt8)) = false := by decide
      have f15 : decide (([105, 109, 112, 111, 114, 116] : List UInt8) = ([100, 114, 97, 119, 115] : List UInt8)) = false := by decide
      have f16 : decide (([105, 109, 112, 111, 114, 116] : List UInt8) = ([100, 114, 111, 112] : List UInt8)) = false := by decide
      have f17 : decide (([105, 109, 112, 111, 114, 116] : List UInt8) = ([108, 105, 110, 101, 115] : List UInt8)) = false := by decide
      have f18 : decide (([105, 109, 112, 111, 114, 116] : List UInt8) = ([99, 111, 112, 121] : List UInt8)) = false := by decide
      have f19 : decide (([105, 109, 112, 111, 114, 116] : List UInt8) = ([108, 105, 115, 116] : List UInt8)) = false := by decide
      have f20 : decide (([105, 109, 112, 111, 114, 116] : List UInt8) = ([115, 104, 111, 119] : List UInt8)) = false := by decide
      simp (implicitDefEqProofs := false) (disch := omega) only [go_sem, simprocAttr, go_sem, Nat.le_refl, Int.toNat_natCast, Int.toNat_zero, Int.toNat_one, str_eq, sz_bA, tl_bA, Tryd.results13, f0, f1, f2, f3, f4, f5, f6, f7, f8, f9, f10, f11, f12, f13, f14, f15, f16, f17, f18, f19, f20]
      first | done | rfl
    · have f0 : decide (([103, 101, 116] : List UInt8) = ([108, 111, 97, 100] : List UInt8)) = false := by decide
      have f1 : decide (([103, 101, 116] : List UInt8) = ([111, 114, 97, 99, 108, 101] : List UInt8)) = false := by decide
      have f2 : decide (([103, 101, 116] : List UInt8) = ([105, 109, 112, 111, 114, 116] : List UInt8)) = false := by decide
      have f3 : decide (([103, 101, 116] : List UInt8) = ([103, 101, 116] : List UInt8)) = true := by decide
      have f4 : decide (([103, 101, 116] : List UInt8) = ([99, 104, 101, 99, 107] : List UInt8)) = false := by decide
      have f5 : decide (([103, 101, 116] : List UInt8) = ([114, 101, 102, 108, 101, 99, 116] : List UInt8)) = false := by decide
      have f6 : decide (([103, 101, 116] : List UInt8) = ([97, 108, 108] : List UInt8)) = false := by decide
      have f7 : decide (([103, 101, 116] : List UInt8) = ([114, 101, 112, 108, 97, 121] : List UInt8)) = false := by decide
      have f8 : decide (([103, 101, 116] : List UInt8) = ([103, 101, 110, 101, 114, 97, 116, 101] : List UInt8)) = false := by decide
      have f9 : decide (([103, 101, 116] : List UInt8) = ([115, 99, 114, 105, 112, 116] : List UInt8)) = false := by decide
      have f10 : decide (([103, 101, 116] : List UInt8) = ([101, 110, 117, 109] : List UInt8)) = false := by decide
      have f11 : decide (([103, 101, 116] : List UInt8) = ([115, 104, 114, 105, 110, 107] : List UInt8)) = false := by decide
      have f12 : decide (([103, 101, 116] : List UInt8) = ([109, 117, 116, 97, 116, 101] : List UInt8)) = false := by decide
      have f13 : decide (([103, 101, 116] : List UInt8) = ([114, 101, 110, 100, 101, 114] : List UInt8)) = false := by decide
      have f14 : decide (([103, 101, 116] : List UInt8) = ([102, 97, 105, 108, 115] : List UInt8)) = false := by decide
      have f15 : decide (([103, 101, 116] : List UInt8) = ([100, 114, 97, 119, 115] : List UInt8)) = false := by decide
      have f16 : decide (([103, 101, 116] : List UInt8) = ([100, 114, 111, 112] : List UInt8)) = false := by decide
      have f17 : decide (([103, 101, 116] : List UInt8) = ([108, 105, 110, 101, 115] : List UInt8)) = false := by decide
      have f18 : decide (([103, 101, 116] : List UInt8) = ([99, 111, 112, 121] : List UInt8)) = false := by decide
      have f19 : decide (([103, 101, 116] : List UInt8) = ([108, 105, 115, 116] : List UInt8)) = false := by decide
      have f20 : decide (([103, 101, 116] : List UInt8) = ([115, 104, 111, 119] : List UInt8)) = false := by decide
      simp (implicitDefEqProofs := false) (disch := omega) only [go_sem, simprocAttr, go_sem, Nat.le_refl, Int.toNat_natCast, Int.toNat_zero, Int.toNat_one, str_eq, sz_bA, tl_bA, Tryd.results13, f0, f1, f2, f3, f4, f5, f6, f7, f8, f9, f10, f11, f12, f13, f14, f15, f16, f17, f18, f19, f20]
      first | done | rfl
    · have f0 : decide (([99, 104, 101, 99, 107] : List UInt8) = ([108, 111, 97, 100] : List UInt8)) = false := by decide
      have f1 : decide (([99, 104, 101, 99, 107] : List UInt8) = ([111, 114, 97, 99, 108, 101] : List UInt8)) = false := by decide
      have f2 : decide (([99, 104, 101, 99, 107] : List UInt8) = ([105, 109, 112, 111, 114, 116] : List UInt8)) = false := by decide
      have f3 : decide (([99, 104, 101, 99, 107] : List UInt8) = ([103, 101, 116] : List UInt8)) = false := by decide
      have f4 : decide (([99, 104, 101, 99, 107] : List UInt8) = ([99, 104, 101, 99, 107] : List UInt8)) = true := by decide
      have f5 : decide (([99, 104, 101, 99, 107] : List UInt8) = ([114, 101, 102, 108, 101, 99, 116] : List UInt8)) = false := by decide
      have f6 : decide (([99, 104, 101, 99, 107] : List UInt8) = ([97, 108, 108] : List UInt8)) = false := by decide
      have f7 : decide (([99, 104, 101, 99, 107] : List UInt8) = ([114, 101, 112, 108, 97, 121] : List UInt8)) = false := by decide
      have f8 : decide (([99, 104, 101, 99, 107] : List UInt8) = ([103, 101, 110, 101, 114, 97, 116, 101] : List UInt8)) = false := by decide
      have f9 : decide (([99, 104, 101, 99, 107] : List UInt8) = ([115, 99, 114, 105, 112, 116] : List UInt8)) = false := by decide
      have f10 : decide (([99, 104, 101, 99, 107] : List UInt8) = ([101, 110, 117, 109] : List UInt8)) = false := by decide
      have f11 : decide (([99, 104, 101, 99, 107] : List UInt8) = ([115, 104, 114, 105, 110, 107] : List UInt8)) = false := by decide
      have f12 : decide (([99, 104, 101, 99, 107] : List UInt8) = ([109, 117, 116, 97, 116, 101] : List UInt8)) = false := by decide
      have f13 : decide (([99, 104, 101, 99, 107] : List UInt8) = ([114, 101, 110, 100, 101, 114] : List UInt8)) = false := by decide
      have f14 : decide (([99, 104, 101, 99, 107] : List UInt8) = ([102, 97, 105, 108, 115] : List UInt8)) = false := by decide
      have f15 : decide (([99, 104, 101, 99, 107] : List UInt8) = ([100, 114, 97, 119, 115] : List UInt8)) = false := by decide
      have f16 : decide (([99, 104, 101, 99, 107] : List UInt8) = ([100, 114, 111, 112] : List UInt8)) = false := by decide
      have f17 : decide (([99, 104, 101, 99, 107] : List UInt8) = ([108, 105, 110, 101, 115] : List UInt8)) = false := by decide
      have f18 : decide (([99, 104, 101, 99, 107] : List UInt8) = ([99, 111, 112, 121] : List UInt8)) = false := by decide
      have f19 : decide (([99, 104, 101, 99, 107] : List UInt8) = ([108, 105, 115, 116] : List UInt8)) = false := by decide
      have f20 : decide (([99, 104, 101, 99, 107] : List UInt8) = ([115, 104, 111, 119] : List UInt8)) = false := by decide
      simp (implicitDefEqProofs := false) (disch := omega) only [go_sem, simprocAttr, go_sem, Nat.le_refl, Int.toNat_natCast, Int.toNat_zero, Int.toNat_one, str_eq, sz_bA, tl_bA, Tryd.results13, f0, f1, f2, f3, f4, f5, f6, f7, f8, f9, f10, f11, f12, f13, f14, f15, f16, f17, f18, f19, f20]
      first | done | rfl
    · have f0 : decide (([114, 101, 102, 108, 101, 99, 116] : List UInt8) = ([108, 111, 97, 100] : List UInt8)) = false := by decide
      have f1 : decide (([114, 101, 102, 108, 101, 99, 116] : List UInt8) = ([111, 114, 97, 99, 108, 101] : List UInt8)) = false := by decide
      have f2 : decide (([114, 101, 102, 108, 101, 99, 116] : List UInt8) = ([105, 109, 112, 111, 114, 116] : List UInt8)) = false := by decide
      have f3 : decide (([114, 101, 102, 108, 101, 99, 116] : List UInt8) = ([103, 101, 116] : List UInt8)) = false := by decide
      have f4 : decide (([114, 101, 102, 108, 101, 99, 116] : List UInt8) = ([99, 104, 101, 99, 107] : List UInt8)) = false := by decide
      have f5 : decide (([114, 101, 102, 108, 101, 99, 116] : List UInt8) = ([114, 101, 102, 108, 101, 99, 116] : List UInt8)) = true := by decide
      have f6 : decide (([114, 101, 102, 108, 101, 99, 116] : List UInt8) = ([97, 108, 108] : List UInt8)) = false := by decide
      have f7 : decide (([114, 101, 102, 108, 101, 99, 116] : List UInt8) = ([114, 101, 112, 108, 97, 121] : List UInt8)) = false := by decide
      have f8 : decide (([114, 101, 102, 108, 101, 99, 116] : List UInt8) = ([103, 101, 110, 101, 114, 97, 116, 101] : List UInt8)) = false := by decide
      have f9 : decide (([114, 101, 102, 108, 101, 99, 116] : List UInt8) = ([115, 99, 114, 105, 112, 116] : List UInt8)) = false := by decide
      have f10 : decide (([114, 101, 102, 108, 101, 99, 116] : List UInt8) = ([101, 110, 117, 109] : List UInt8)) = false := by decide
      have f11 : decide (([114, 101, 102, 108, 101, 99, 116] : List UInt8) = ([115, 104, 114, 105, 110, 107] : List UInt8)) = false := by decide
      have f12 : decide (([114, 101, 102, 108, 101, 99, 116] : List UInt8) = ([109, 117, 116, 97, 116, 101] : List UInt8)) = false := by decide
      have f13 : decide (([114, 101, 102, 108, 101, 99, 116] : List UInt8) = ([114, 101, 110, 100, 101, 114] : List UInt8)) = false := by decide
      have f14 : decide (([114, 101, 102, 108, 101, 99, 116] : List UInt8) = ([102, 97, 105, 108, 115] : List UInt8)) = false := by decide
      have f15 : decide (([114, 101, 102, 108, 101, 99, 116] : List UInt8) = ([100, 114, 97, 119, 115] : List UInt8)) = false := by decide
      have f16 : decide (([114, 101, 102, 108, 101, 99, 116] : List UInt8) = ([100, 114, 111, 112] : List UInt8)) = false := by decide
      have f17 : decide (([114, 101, 102, 108, 101, 99, 116] : List UInt8) = ([108, 105, 110, 101, 115] : List UInt8)) = false := by decide
      have f18 : decide (([114, 101, 102, 108, 101, 99, 116] : List UInt8) = ([99, 111, 112, 121] : List UInt8)) = false := by decide
      have f19 : decide (([114, 101, 102, 108, 101, 99, 116] : List UInt8) = ([108, 105, 115, 116] : List UInt8)) = false := by decide
      have f20 : decide (([114, 101, 102, 108, 101, 99, 116] : List UInt8) = ([115, 104, 111, 119] : List UInt8)) = false := by decide
      simp (implicitDefEqProofs := false) (disch := omega) only [go_sem, simprocAttr, go_sem, Nat.le_refl, Int.toNat_natCast, Int.toNat_zero, Int.toNat_one, str_eq, sz_bA, tl_bA, Tryd.results13, f0, f1, f2, f3, f4, f5, f6, f7, f8, f9, f10, f11, f12, f13, f14, f15, f16, f17, f18, f19, f20]
      first | done | rfl
    · have f0 : decide (([97, 108, 108] : List UInt8) = ([108, 111, 97, 100] : List UInt8)) = false := by decide
      have f1 : decide (([97, 108, 108] : List UInt8) = ([111, 114, 97, 99, 108, 101] : List UInt8)) = false := by decide
      have f2 : decide (([97, 108, 108] : List UInt8) = ([105, 109, 112, 111, 114, 116] : List UInt8)) = false := by decide
      have f3 : decide (([97, 108, 108] : List UInt8) = ([103, 101, 116] : List UInt8)) = false := by decide
      have f4 : decide (([97, 108, 108] : List UInt8) = ([99, 104, 101, 99, 107] : List UInt8)) = false := by decide
      have f5 : decide (([97, 108, 108] : List UInt8) = ([114, 101, 102, 108, 101, 99, 116] : List UInt8)) = false := by decide
      have f6 : decide (([97, 108, 108] : List UInt8) = ([97, 108, 108] : List UInt8)) = true := by decide
      have f7 : decide (([97, 108, 108] : List UInt8) = ([114, 101, 112, 108, 97, 121] : List UInt8)) = false := by decide
      have f8 : decide (([97, 108, 108] : List UInt8) = ([103, 101, 110, 101, 114, 97, 116, 101] : List UInt8)) = false := by decide
      have f9 : decide (([97, 108, 108] : List UInt8) = ([115, 99, 114, 105, 112, 116] : List UInt8)) = false := by decide
      have f10 : decide (([97, 108, 108] : List UInt8) = ([101, 110, 117, 109] : List UInt8)) = false := by decide
      have f11 : decide (([97, 108, 108] : List UInt8) = ([115, 104, 114, 105, 110, 107] : List UInt8)) = false := by decide
      have f12 : decide (([97, 108, 108] : List UInt8) = ([109, 117, 116, 97, 116, 101] : List UInt8)) = false := by decide
      have f13 : decide (([97, 108, 108] : List UInt8) = ([114, 101, 110, 100, 101, 114] : List UInt8)) = false := by decide
      have f14 : decide (([97, 108, 108] : List UInt8) = ([102, 97, 105, 108, 115] : List UInt8)) = false := by decide
      have f15 : decide (([97, 108, 108] : List UInt8) = ([100, 114, 97, 119, 115] : List UInt8)) = false := by decide
      have f16 : decide (([97, 108, 108] : List UInt8) = ([100, 114, 111, 112] : List UInt8)) = false := by decide
      have f17 : decide (([97, 108, 108] : List UInt8) = ([108, 105, 110, 101, 115] : List UInt8)) = false := by decide
      have f18 : decide (([97, 108, 108] : List UInt8) = ([99, 111, 112, 121] : List UInt8)) = false := by decide
      have f19 : decide (([97, 108, 108] : List UInt8) = ([108, 105, 115, 116] : List UInt8)) = false := by decide
      have f20 : decide (([97, 108, 108] : List UInt8) = ([115, 104, 111, 119] : List UInt8)) = false := by decide
      simp (implicitDefEqProofs := false) (disch := omega) only [go_sem, simprocAttr, go_sem, Nat.le_refl, Int.toNat_natCast, Int.toNat_zero, Int.toNat_one, str_eq, sz_bA, tl_bA, Tryd.results13, f0, f1, f2, f3, f4, f5, f6, f7, f8, f9, f10, f11, f12, f13, f14, f15, f16, f17, f18, f19, f20]
      first | done | rfl
    · have f0 : decide (([114, 101, 112, 108, 97, 121] : List UInt8) = ([108, 111, 97, 100] : List UInt8)) = false := by decide
      have f1 : decide (([114, 101, 112, 108, 97, 121] : List UInt8) = ([111, 114, 97, 99, 108, 101] : List UInt8)) = false := by decide
      have f2 : decide (([114, 101, 112, 108, 97, 121] : List UInt8) = ([105, 109, 112, 111, 114, 116] : List UInt8)) = false := by decide
      have f3 : decide (([114, 101, 112, 108, 97, 121] : List UInt8) = ([103, 101, 116] : List UInt8)) = false := by decide
      have f4 : decide (([114, 101, 112, 108, 97, 121] : List UInt8) = ([99, 104, 101, 99, 107] : List UInt8)) = false := by decide
      have f5 : decide (([114, 101, 112, 108, 97, 121] : List UInt8) = ([114, 101, 102, 108, 101, 99, 116] : List UInt8)) = false := by decide
      have f6 : decide (([114, 101, 112, 108, 97, 121] : List UInt8) = ([97, 108, 108] : List UInt8)) = false := by decide
      have f7 : decide (([114, 101, 112, 108, 97, 121] : List UInt8) = ([114, 101, 112, 108, 97, 121] : List UInt8)) = true := by decide
      have f8 : decide (([114, 101, 112, 108, 97, 121] : List UInt8) = ([103, 101, 110, 101, 114, 97, 116, 101] : List UInt8)) = false := by decide
      have f9 : decide (([114, 101, 112, 108, 97, 121] : List UInt8) = ([115, 99, 114, 105, 112, 116] : List UInt8)) = false := by decide
      have f10 : decide (([114, 101, 112, 108, 97, 121] : List UInt8) = ([101, 110, 117, 109] : List UInt8)) = false := by decide
      have f11 : decide (([114, 101, 112, 108, 97, 121] : List UInt8) = ([115, 104, 114, 105, 110, 107] : List UInt8)) = false := by decide
      have f12 : decide (([114, 101, 112, 108, 97, 121] : List UInt8) = ([109, 117, 116, 97, 116, 101] : List UInt8)) = false := by decide
      have f13 : decide (([114, 101, 112, 108, 97, 121] : List UInt8) = ([114, 101, 110, 100, 101, 114] : List UInt8)) = false := by decide
      have f14 : decide (([114, 101, 112, 108, 97, 121] : List UInt8) = ([102, 97, 105, 108, 115] : List UInt8)) = false := by decide
      have f15 : decide (([114, 101, 112, 108, 97, 121] : List UInt8) = ([100, 114, 97, 119, 115] : List UInt8)) = false := by decide
      have f16 : decide (([114, 101, 112, 108, 97, 121] : List UInt8) = ([100, 114, 111, 112] : List UInt8)) = false := by decide
      have f17 : decide (([114, 101, 112, 108, 97, 121] : List UInt8) = ([108, 105, 110, 101, 115] : List UInt8)) = false := by decide
      have f18 : decide (([114, 101, 112, 108, 97, 121] : List UInt8) = ([99, 111, 112, 121] : List UInt8)) = false := by decide
      have f19 : decide (([114, 101, 112, 108, 97, 121] : List UInt8) = ([108, 105, 115, 116] : List UInt8)) = false := by decide
      have f20 : decide (([114, 101, 112, 108, 97, 121] : List UInt8) = ([115, 104, 111, 119] : List UInt8)) = false := by decide
      simp (implicitDefEqProofs := false) (disch := omega) only [go_sem, simprocAttr, go_sem, Nat.le_refl, Int.toNat_natCast, Int.toNat_zero, Int.toNat_one, str_eq, sz_bA, tl_bA, Tryd.results13, f0, f1, f2, f3, f4, f5, f6, f7, f8, f9, f10, f11, f12, f13, f14, f15, f16, f17, f18, f19, f20]
      first | done | rfl
    · have f0 : decide (([103, 101, 110, 101, 114, 97, 116, 101] : List UInt8) = ([108, 111, 97, 100] : List UInt8)) = false := by decide
      have f1 : decide (([103, 101, 110, 101, 114, 97, 116, 101] : List UInt8) = ([111, 114, 97, 99, 108, 101] : List UInt8)) = false := by decide
      have f2 : decide (([103, 101, 110, 101, 114, 97, 116, 101] : List UInt8) = ([105, 109, 112, 111, 114, 116] : List UInt8)) = false := by decide
      have f3 : decide (([103, 101, 110, 101, 114, 97, 116, 101] : List UInt8) = ([103, 101, 116] : List UInt8)) = false := by decide
      have f4 : decide (([103, 101, 110, 101, 114, 97, 116, 101] : List UInt8) = ([99, 104, 101, 99, 107] : List UInt8)) = false := by decide
      have f5 : decide (([103, 101, 110, 101, 114, 97, 116, 101] : List UInt8) = ([114, 101, 102, 108, 101, 99, 116] : List UInt8)) = false := by decide
      have f6 : decide (([103, 101, 110, 101, 114, 97, 116, 101] : List UInt8) = ([97, 108, 108] : List UInt8)) = false := by decide
      have f7 : decide (([103, 101, 110, 101, 114, 97, 116, 101] : List UInt8) = ([114, 101, 112, 108, 97, 121] : List UInt8)) = false := by decide
      have f8 : decide (([103, 101, 110, 101, 114, 97, 116, 101] : List UInt8) = ([103, 101, 110, 101, 114, 97, 116, 101] : List UInt8)) = true := by decide
      have f9 : decide (([103, 101, 110, 101, 114, 97, 116, 101] : List UInt8) = ([115, 99, 114, 105, 112, 116] : List UInt8)) = false := by decide
      have f10 : decide (([103, 101, 110, 101, 114, 97, 116, 101] : List UInt8) = ([101, 110, 117, 109] : List UInt8)) = false := by decide
      have f11 : decide (([103, 101, 110, 101, 114, 97, 116, 101] : List UInt8) = ([115, 104, 114, 105, 110, 107] : List UInt8)) = false := by decide
      have f12 : decide (([103, 101, 110, 101, 114, 97, 116, 101] : List UInt8) = ([109, 117, 116, 97, 116, 101] : List UInt8)) = false := by decide
      have f13 : decide (([103, 101, 110, 101, 114, 97, 116, 101] : List UInt8) = ([114, 101, 110, 100, 101, 114] : List UInt8)) = false := by decide
      have f14 : decide (([103, 101, 110, 101, 114, 97, 116, 101] : List UInt8) = ([102, 97, 105, 108, 115] : List UInt8)) = false := by decide
      have f15 : decide (([103, 101, 110, 101, 114, 97, 116, 101] : List UInt8) = ([100, 114, 97, 119, 115] : List UInt8)) = false := by decide
      have f16 : decide (([103, 101, 110, 101, 114, 97, 116, 101] : List UInt8) = ([100, 114, 111, 112] : List UInt8)) = false := by decide
      have f17 : decide (([103, 101, 110, 101, 114, 97, 116, 101] : List UInt8) = ([108, 105, 110, 101, 115] : List UInt8)) = false := by decide
      have f18 : decide (([103, 101, 110, 101, 114, 97, 116, 101] : List UInt8) = ([99, 111, 112, 121] : List UInt8)) = false := by decide
      have f19 : decide (([103, 101, 110, 101, 114, 97, 116, 101] : List UInt8) = ([108, 105, 115, 116] : List UInt8)) = false := by decide
      have f20 : decide (([103, 101, 110, 101, 114, 97, 116, 101] : List UInt8) = ([115, 104, 111, 119] : List UInt8)) = false := by decide
      simp (implicitDefEqProofs := false) (disch := omega) only [go_sem, simprocAttr, go_sem, Nat.le_refl, Int.toNat_natCast, Int.toNat_zero, Int.toNat_one, str_eq, sz_bA, tl_bA, Tryd.results13, f0, f1, f2, f3, f4, f5, f6, f7, f8, f9, f10, f11, f12, f13, f14, f15, f16, f17, f18, f19, f20]
      first | done | rfl
    · have f0 : decide (([115, 99, 114, 105, 112, 116] : List UInt8) = ([108, 111, 97, 100] : List UInt8)) = false := by decide
      have f1 : decide (([115, 99, 114, 105, 112, 116] : List UInt8) = ([111, 114, 97, 99, 108, 101] : List UInt8)) = false := by decide
      have f2 : decide (([115, 99, 114, 105, 112, 116] : List UInt8) = ([105, 109, 112, 111, 114, 116] : List UInt8)) = false := by decide
      have f3 : decide (([115, 99, 114, 105, 112, 116] : List UInt8) = ([103, 101, 116] : List UInt8)) = false := by decide
      have f4 : decide (([115, 99, 114, 105, 112, 116] : List UInt8) = ([99, 104, 101, 99, 107] : List UInt8)) = false := by decide
      have f5 : decide (([115, 99, 114, 105, 112, 116] : List UInt8) = ([114, 101, 102, 108, 101, 99, 116] : List UInt8)) = false := by decide
      have f6 : decide (([115, 99, 114, 105, 112, 116] : List UInt8) = ([97, 108, 108] : List UInt8)) = false := by decide
      have f7 : decide (([115, 99, 114, 105, 112, 116] : List UInt8) = ([114, 101, 112, 108, 97, 121] : List UInt8)) = false := by decide
      have f8 : decide (([115, 99, 114, 105, 112, 116] : List UInt8) = ([103, 101, 110, 101, 114, 97, 116, 101] : List UInt8)) = false := by decide
      have f9 : decide (([115, 99, 114, 105, 112, 116] : List UInt8) = ([115, 99, 114, 105, 112, 116] : List UInt8)) = true := by decide
      have f10 : decide (([115, 99, 114, 105, 112, 116] : List UInt8) = ([101, 110, 117, 109] : List UInt8)) = false := by decide
      have f11 : decide (([115, 99, 114, 105, 112, 116] : List UInt8) = ([115, 104, 114, 105, 110, 107] : List UInt8)) = false := by decide
      have f12 : decide (([115, 99, 114, 105, 112, 116] : List UInt8) = ([109, 117, 116, 97, 116, 101] : List UInt8)) = false := by decide
      have f13 : decide (([115, 99, 114, 105, 112, 116] : List UInt8) = ([114, 101, 110, 100, 101, 114] : List UInt8)) = false := by decide
      have f14 : decide (([115, 99, 114, 105, 112, 116] : List UInt8) = ([102, 97, 105, 108, 115] : List UInt8)) = false := by decide
      have f15 : decide (([115, 99, 114, 105, 112, 116] : List UInt8) = ([100, 114, 97, 119, 115] : List UInt8)) = false := by decide
      have f16 : decide (([115, 99, 114, 105, 112, 116] : List UInt8) = ([100, 114, 111, 112] : List UInt8)) = false := by decide
      have f17 : decide (([115, 99, 114, 105, 112, 116] : List UInt8) = ([108, 105, 110, 101, 115] : List UInt8)) = false := by decide
      have f18 : decide (([115, 99, 114, 105, 112, 116] : List UInt8) = ([99, 111, 112, 121] : List UInt8)) = false := by decide
      have f19 : decide (([115, 99, 114, 105, 112, 116] : List UInt8) = ([108, 105, 115, 116] : List UInt8)) = false := by decide
      have f20 : decide (([115, 99, 114, 105, 112, 116] : List UInt8) = ([115, 104, 111, 119] : List UInt8)) = false := by decide
      simp (implicitDefEqProofs := false) (disch := omega) only [go_sem, simprocAttr, go_sem, Nat.le_refl, Int.toNat_natCast, Int.toNat_zero, Int.toNat_one, str_eq, sz_bA, tl_bA, Tryd.results13, f0, f1, f2, f3, f4, f5, f6, f7, f8, f9, f10, f11, f12, f13, f14, f15, f16, f17, f18, f19, f20]
      first | done | rfl
    · have f0 : decide (([101, 110, 117, 109] : List UInt8) = ([108, 111, 97, 100] : List UInt8)) = false := by decide
      have f1 : decide (([101, 110, 117, 109] : List UInt8) = ([111, 114, 97, 99, 108, 101] : List UInt8)) = false := by decide
      have f2 : decide (([101, 110, 117, 109] : List UInt8) = ([105, 109, 112, 111, 114, 116] : List UInt8)) = false := by decide
      have f3 : decide (([101, 110, 117, 109] : List UInt8) = ([103, 101, 116] : List UInt8)) = false := by decide
      have f4 : decide (([101, 110, 117, 109] : List UInt8) = ([99, 104, 101, 99, 107] : List UInt8)) = false := by decide
      have f5 : decide (([101, 110, 117, 109] : List UInt8) = ([114, 101, 102, 108, 101, 99, 116] : List UInt8)) = false := by decide
      have f6 : decide (([101, 110, 117, 109] : List UInt8) = ([97, 108, 108] : List UInt8)) = false := by decide
      have f7 : decide (([101, 110, 117, 109] : List UInt8) = ([114, 101, 112, 108, 97, 121] : List UInt8)) = false := by decide
      have f8 : decide (([101, 110, 117, 109] : List UInt8) = ([103, 101, 110, 101, 114, 97, 116, 101] : List UInt8)) = false := by decide
      have f9 : decide (([101, 110, 117, 109] : List UInt8) = ([115, 99, 114, 105, 112, 116] : List UInt8)) = false := by decide
      have f10 : decide (([101, 110, 117, 109] : List UInt8) = ([101, 110, 117, 109] : List UInt8)) = true := by decide
      have f11 : decide (([101, 110, 117, 109] : List UInt8) = ([115, 104, 114, 105, 110, 107] : List UInt8)) = false := by decide
      have f12 : decide (([101, 110, 117, 109] : List UInt8) = ([109, 117, 116, 97, 116, 101] : List UInt8)) = false := by decide
      have f13 : decide (([101, 110, 117, 109] : List UInt8) = ([114, 101, 110, 100, 101, 114] : List UInt8)) = false := by decide
      have f14 : decide (([101, 110, 117, 109] : List UInt8) = ([102, 97, 105, 108, 115] : List UInt8)) = false := by decide
      have f15 : decide (([101, 110, 117, 109] : List UInt8) = ([100, 114, 97, 119, 115] : List UInt8)) = false := by decide
      have f16 : decide (([101, 110, 117, 109] : List UInt8) = ([100, 114, 111, 112] : List UInt8)) = false := by decide
      have f17 : decide (([101, 110, 117, 109] : List UInt8) = ([108, 105, 110, 101, 115] : List UInt8)) = false := by decide
      have f18 : decide (([101, 110, 117, 109] : List UInt8) = ([99, 111, 112, 121] : List UInt8)) = false := by decide
      have f19 : decide (([101, 110, 117, 109] : List UInt8) = ([108, 105, 115, 116] : List UInt8)) = false := by decide
      have f20 : decide (([101, 110, 117, 109] : List UInt8) = ([115, 104, 111, 119] : List UInt8)) = false := by decide
      simp (implicitDefEqProofs := false) (disch := omega) only [go_sem, simprocAttr, go_sem, Nat.le_refl, Int.toNat_natCast, Int.toNat_zero, Int.toNat_one, str_eq, sz_bA, tl_bA, Tryd.results13, f0, f1, f2, f3, f4, f5, f6, f7, f8, f9, f10, f11, f12, f13, f14, f15, f16, f17, f18, f19, f20]
      first | done | rfl
    · have f0 : decide (([115, 104, 114, 105, 110, 107] : List UInt8) = ([108, 111, 97, 100] : List UInt8)) = false := by decide
      have f1 : decide (([115, 104, 114, 105, 110, 107] : List UInt8) = ([111, 114, 97, 99, 108, 101] : List UInt8)) = false := by decide
      have f2 : decide (([115, 104, 114, 105, 110, 107] : List UInt8) = ([105, 109, 112, 111, 114, 116] : List UInt8)) = false := by decide
      have f3 : decide (([115, 104, 114, 105, 110, 107] : List UInt8) = ([103, 101, 116] : List UInt8)) = false := by decide
      have f4 : decide (([115, 104, 114, 105, 110, 107] : List UInt8) = ([99, 104, 101, 99, 107] : List UInt8)) = false := by decide
      have f5 : decide (([115, 104, 114, 105, 110, 107] : List UInt8) = ([114, 101, 102, 108, 101, 99, 116] : List UInt8)) = false := by decide
      have f6 : decide (([115, 104, 114, 105, 110, 107] : List UInt8) = ([97, 108, 108] : List UInt8)) = false := by decide
      have f7 : decide (([115, 104, 114, 105, 110, 107] : List UInt8) = ([114, 101, 112, 108, 97, 121] : List UInt8)) = false := by decide
      have f8 : decide (([115, 104, 114, 105, 110, 107] : List UInt8) = ([103, 101, 110, 101, 114, 97, 116, 101] : List UInt8)) = false := by decide
      have f9 : decide (([115, 104, 114, 105, 110, 107] : List UInt8) = ([115, 99, 114, 105, 112, 116] : List UInt8)) = false := by decide
      have f10 : decide (([115, 104, 114, 105, 110, 107] : List UInt8) = ([101, 110, 117, 109] : List UInt8)) = false := by decide
      have f11 : decide (([115, 104, 114, 105, 110, 107] : List UInt8) = ([115, 104, 114, 105, 110, 107] : List UInt8)) = true := by decide
      have f12 : decide (([115, 104, 114, 105, 110, 107] : List UInt8) = ([109, 117, 116, 97, 116, 101] : List UInt8)) = false := by decide
      have f13 : decide (([115, 104, 114, 105, 110, 107] : List UInt8) = ([114, 101, 110, 100, 101, 114] : List UInt8)) = false := by decide
      have f14 : decide (([115, 104, 114, 105, 110, 107] : List UInt8) = ([102, 97, 105, 108, 115] : List UInt8)) = false := by decide
      have f15 : decide (([115, 104, 114, 105, 110, 107] : List UInt8) = ([100, 114, 97, 119, 115] : List UInt8)) = false := by decide
      have f16 : decide (([115, 104, 114, 105, 110, 107] : List UInt8) = ([100, 114, 111, 112] : List UInt8)) = false := by decide
      have f17 : decide (([115, 104, 114, 105, 110, 107] : List UInt8) = ([108, 105, 110, 101, 115] : List UInt8)) = false := by decide
      have f18 : decide (([115, 104, 114, 105, 110, 107] : List UInt8) = ([99, 111, 112, 121] : List UInt8)) = false := by decide
      have f19 : decide (([115, 104, 114, 105, 110, 107] : List UInt8) = ([108, 105, 115, 116] : List UInt8)) = false := by decide
      have f20 : decide (([115, 104, 114, 105, 110, 107] : List UInt8) = ([115, 104, 111, 119] : List UInt8)) = false := by decide
      simp (implicitDefEqProofs := false) (disch := omega) only [go_sem, simprocAttr, go_sem, Nat.le_refl, Int.toNat_natCast, Int.toNat_zero, Int.toNat_one, str_eq, sz_bA, tl_bA, Tryd.results13, f0, f1, f2, f3, f4, f5, f6, f7, f8, f9, f10, f11, f12, f13, f14, f15, f16, f17, f18, f19, f20]
      first | done | rfl
    · have f0 : decide (([109, 117, 116, 97, 116, 101] : List UInt8) = ([108, 111, 97, 100] : List UInt8)) = false := by decide
      have f1 : decide (([109, 117, 116, 97, 116, 101] : List UInt8) = ([111, 114, 97, 99, 108, 101] : List UInt8)) = false := by decide
      have f2 : decide (([109, 117, 116, 97, 116, 101] : List UInt8) = ([105, 109, 112, 111, 114, 116] : List UInt8)) = false := by decide
      have f3 : decide (([109, 117, 116, 97, 116, 101] : List UInt8) = ([103, 101, 116] : List UInt8)) = false := by decide
      have f4 : decide (([109, 117, 116, 97, 116, 101] : List UInt8) = ([99, 104, 101, 99, 107] : List UInt8)) = false := by decide
      have f5 : decide (([109, 117, 116, 97, 116, 101] : List UInt8) = ([114, 101, 102, 108, 101, 99, 116] : List UInt8)) = false := by decide
      have f6 : decide (([109, 117, 116, 97, 116, 101] : List UInt8) = ([97, 108, 108] : List UInt8)) = false := by decide
      have f7 : decide (([109, 117, 116, 97, 116, 101] : List UInt8) = ([114, 101, 112, 108, 97, 121] : List UInt8)) = false := by decide
      have f8 : decide (([109, 117, 116, 97, 116, 101] : List UInt8) = ([103, 101, 110, 101, 114, 97, 116, 101] : List UInt8)) = false := by decide
      have f9 : decide (([109, 117, 116, 97, 116, 101] : List UInt8) = ([115, 99, 114, 105, 112, 116] : List UInt8)) = false := by decide
      have f10 : decide (([109, 117, 116, 97, 116, 101] : List UInt8) = ([101, 110, 117, 109] : List UInt8)) = false := by decide
      have f11 : decide (([109, 117, 116, 97, 116, 101] : List UInt8) = ([115, 104, 114, 105, 110, 107] : List UInt8)) = false := by decide
      have f12 : decide (([109, 117, 116, 97, 116, 101] : List UInt8) = ([109, 117, 116, 97, 116, 101] : List UInt8)) = true := by decide
      have f13 : decide (([109, 117, 116, 97, 116, 101] : List UInt8) = ([114, 101, 110, 100, 101, 114] : List UInt8)) = false := by decide
      have f14 : decide (([109, 117, 116, 97, 116, 101] : List UInt8) = ([102, 97, 105, 108, 115] : List UInt8)) = false := by decide
      have f15 : decide (([109, 117, 116, 97, 116, 101] : List UInt8) = ([100, 114, 97, 119, 115] : List UInt8)) = false := by decide
      have f16 : decide (([109, 117, 116, 97, 116, 101] : List UInt8) = ([100, 114, 111, 112] : List UInt8)) = false := by decide
      have f17 : decide (([109, 117, 116, 97, 116, 101] : List UInt8) = ([108, 105, 110, 101, 115] : List UInt8)) = false := by decide
      have f18 : decide (([109, 117, 116, 97, 116, 101] : List UInt8) = ([99, 111, 112, 121] : List UInt8)) = false := by decide
      have f19 : decide (([109, 117, 116, 97, 116, 101] : List UInt8) = ([108, 105, 115, 116] : List UInt8)) = false := by decide
      have f20 : decide (([109, 117, 116, 97, 116, 101] : List UInt8) = ([115, 104, 111, 119] : List UInt8)) = false := by decide
      simp (implicitDefEqProofs := false) (disch := omega) only [go_sem, simprocAttr, go_sem, Nat.le_refl, Int.toNat_natCast, Int.toNat_zero, Int.toNat_one, str_eq, sz_bA, tl_bA, Tryd.results13, f0, f1, f2, f3, f4, f5, f6, f7, f8, f9, f10, f11, f12, f13, f14, f15, f16, f17, f18, f19, f20]
      first | done | rfl
    · have f0 : decide (([114, 101, 110, 100, 101, 114] : List UInt8) = ([108, 111, 97, 100] : List UInt8)) = false := by decide
      have f1 : decide (([114, 101, 110, 100, 101, 114] : List UInt8) = ([111, 114, 97, 99, 108, 101] : List UInt8)) = false := by decide
      have f2 : decide (([114, 101, 110, 100, 101, 114] : List UInt8) = ([105, 109, 112, 111, 114, 116] : List UInt8)) = false := by decide
      have f3 : decide (([114, 101, 110, 100, 101, 114] : List UInt8) = ([103, 101, 116] : List UInt8)) = false := by decide
      have f4 : decide (([114, 101, 110, 100, 101, 114] : List UInt8) = ([99, 104, 101, 99, 107] : List UInt8)) = false := by decide
      have f5 : decide (([114, 101, 110, 100, 101, 114] : List UInt8) = ([114, 101, 102, 108, 101, 99, 116] : List UInt8)) = false := by decide
      have f6 : decide (([114, 101, 110, 100, 101, 114] : List UInt8) = ([97, 108, 108] : List UInt8)) = false := by decide
      have f7 : decide (([114, 101, 110, 100, 101, 114] : List UInt8) = ([114, 101, 112, 108, 97, 121] : List UInt8)) = false := by decide
      have f8 : decide (([114, 101, 110, 100, 101, 114] : List UInt8) = ([103, 101, 110, 101, 114, 97, 116, 101] : List UInt8)) = false := by decide
      have f9 : decide (([114, 101, 110, 100, 101, 114] : List UInt8) = ([115, 99, 114, 105, 112, 116] : List UInt8)) = false := by decide
      have f10 : decide (([114, 101, 110, 100, 101, 114] : List UInt8) = ([101, 110, 117, 109] : List UInt8)) = false := by decide
      have f11 : decide (([114, 101, 110, 100, 101, 114] : List UInt8) = ([115, 104, 114, 105, 110, 107] : List UInt8)) = false := by decide
      have f12 : decide (([114, 101, 110, 100, 101, 114] : List UInt8) = ([109, 117, 116, 97, 116, 101] : List UInt8)) = false := by decide
      have f13 : decide (([114, 101, 110, 100, 101, 114] : List UInt8) = ([114, 101, 110, 100, 101, 114] : List UInt8)) = true := by decide
      have f14 : decide (([114, 101, 110, 100, 101, 114] : List UInt8) = ([102, 97, 105, 108, 115] : List UInt8)) = false := by decide
      have f15 : decide (([114, 101, 110, 100, 101, 114] : List UInt8) = ([100, 114, 97, 119, 115] : List UInt8)) = false := by decide
      have f16 : decide (([114, 101, 110, 100, 101, 114] : List UInt8) = ([100, 114, 111, 112] : List UInt8)) = false := by decide
      have f17 : decide (([114, 101, 110, 100, 101, 114] : List UInt8) = ([108, 105, 110, 101, 115] : List UInt8)) = false := by decide
      have f18 : decide (([114, 101, 110, 100, 101, 114] : List UInt8) = ([99, 111, 112, 121] : List UInt8)) = false := by decide
      have f19 : decide (([114, 101, 110, 100, 101, 114] : List UInt8) = ([108, 105, 115, 116] : List UInt8)) = false := by decide
      have f20 : decide (([114, 101, 110, 100, 101, 114] : List UInt8) = ([115, 104, 111, 119] : List UInt8)) = false := by decide
      simp (implicitDefEqProofs := false) (disch := omega) only [go_sem, simprocAttr, go_sem, Nat.le_refl, Int.toNat_natCast, Int.toNat_zero, Int.toNat_one, str_eq, sz_bA, tl_bA, Tryd.results13, f0, f1, f2, f3, f4, f5, f6, f7, f8, f9, f10, f11, f12, f13, f14, f15, f16, f17, f18, f19, f20]
      first | done | rfl
    · have f0 : decide (([102, 97, 105, 108, 115] : List UInt8) = ([108, 111, 97, 100] : List UInt8)) = false := by decide
      have f1 : decide (([102, 97, 105, 108, 115] : List UInt8) = ([111, 114, 97, 99, 108, 101] : List UInt8)) = false := by decide
      have f2 : decide (([102, 97, 105, 108, 115] : List UInt8) = ([105, 109, 112, 111, 114, 116] : List UInt8)) = false := by decide
      have f3 : decide (([102, 97, 105, 108, 115] : List UInt8) = ([103, 101, 116] : List UInt8)) = false := by decide
      have f4 : decide (([102, 97, 105, 108, 115] : List UInt8) = ([99, 104, 101, 99, 107] : List UInt8)) = false := by decide
      have f5 : decide (([102, 97, 105, 108, 115] : List UInt8) = ([114, 101, 102, 108, 101, 99, 116] : List UInt8)) = false := by decide
      have f6 : decide (([102, 97, 105, 108, 115] : List UInt8) = ([97, 108, 108] : List UInt8)) = false := by decide
      have f7 : decide (([102, 97, 105, 108, 115] : List UInt8) = ([114, 101, 112, 108, 97, 121] : List UInt8)) = false := by decide
      have f8 : decide (([102, 97, 105, 108, 115] : List UInt8) = ([103, 101, 110, 101, 114, 97, 116, 101] : List UInt8)) = false := by decide
      have f9 : decide (([102, 97, 105, 108, 115] : List UInt8) = ([115, 99, 114, 105, 112, 116] : List UInt8)) = false := by decide
      have f10 : decide (([102, 97, 105, 108, 115] : List UInt8) = ([101, 110, 117, 109] : List UInt8)) = false := by decide
      have f11 : decide (([102, 97, 105, 108, 115] : List UInt8) = ([115, 104, 114, 105, 110, 107] : List UInt8)) = false := by decide
      have f12 : decide (([102, 97, 105, 108, 115] : List UInt8) = ([109, 117, 116, 97, 116, 101] : List UInt8)) = false := by decide
      have f13 : decide (([102, 97, 105, 108, 115] : List UInt8) = ([114, 101, 110, 100, 101, 114] : List UInt8)) = false := by decide
      have f14 : decide (([102, 97, 105, 108, 115] : List UInt8) = ([102, 97, 105, 108, 115] : List UInt8)) = true := by decide
      have f15 : decide (([102, 97, 105, 108, 115] : List UInt8) = ([100, 114, 97, 119, 115] : List UInt8)) = false := by decide
      have f16 : decide (([102, 97, 105, 108, 115] : List UInt8) = ([100, 114, 111, 112] : List UInt8)) = false := by decide
      have f17 : decide (([102, 97, 105, 108, 115] : List UInt8) = ([108, 105, 110, 101, 115] : List UInt8)) = false := by decide
      have f18 : decide (([102, 97, 105, 108, 115] : List UInt8) = ([99, 111, 112, 121] : List UInt8)) = false := by decide
      have f19 : decide (([102, 97, 105, 108, 115] : List UInt8) = ([108, 105, 115, 116] : List UInt8)) = false := by decide
      have f20 : decide (([102, 97, 105, 108, 115] : List UInt8) = ([115, 104, 111, 119] : List UInt8)) = false := by decide
      simp (implicitDefEqProofs := false) (disch := omega) only [go_sem, simprocAttr, go_sem, Nat.le_refl, Int.toNat_natCast, Int.toNat_zero, Int.toNat_one, str_eq, sz_bA, tl_bA, Tryd.results13, f0, f1, f2, f3, f4, f5, f6, f7, f8, f9, f10, f11, f12, f13, f14, f15, f16, f17, f18, f19, f20]
      first | done | rfl
    · have f0 : decide (([100, 114, 97, 119, 115] : List UInt8) = ([108, 111, 97, 100] : List UInt8)) = false := by decide
      have f1 : decide (([100, 114, 97, 119, 115] : List UInt8) = ([111, 114, 97, 99, 108, 101] : List UInt8)) = false := by decide
      have f2 : decide (([100, 114, 97, 119, 115] : List UInt8) = ([105, 109, 112, 111, 114, 116] : List UInt8)) = false := by decide
      have f3 : decide (([100, 114, 97, 119, 115] : List UInt8) = ([103, 101, 116] : List UInt8)) = false := by decide
      have f4 : decide (([100, 114, 97, 119, 115] : List UInt8) = ([99, 104, 101, 99, 107] : List UInt8)) = false := by decide
      have f5 : decide (([100, 114, 97, 119, 115] : List UInt8) = ([114, 101, 102, 108, 101, 99, 116] : List UInt8)) = false := by decide
      have f6 : decide (([100, 114, 97, 119, 115] : List UInt8) = ([97, 108, 108] : List UInt8)) = false := by decide
      have f7 : decide (([100, 114, 97, 119, 115] : List UInt8) = ([114, 101, 112, 108, 97, 121] : List UInt8)) = false := by decide
      have f8 : decide (([100, 114, 97, 119, 115] : List UInt8) = ([103, 101, 110, 101, 114, 97, 116, 101] : List UInt8)) = false := by decide
      have f9 : decide (([100, 114, 97, 119, 115] : List UInt8) = ([115, 99, 114, 105, 112, 116] : List UInt8)) = false := by decide
      have f10 : decide (([100, 114, 97, 119, 115] : List UInt8) = ([101, 110, 117, 109] : List UInt8)) = false := by decide
      have f11 : decide (([100, 114, 97, 119, 115] : List UInt8) = ([115, 104, 114, 105, 110, 107] : List UInt8)) = false := by decide
      have f12 : decide (([100, 114, 97, 119, 115] : List UInt8) = ([109, 117, 116, 97, 116, 101] : List UInt8)) = false := by decide
      have f13 : decide (([100, 114, 97, 119, 115] : List UInt8) = ([114, 101, 110, 100, 101, 114] : List UInt8)) = false := by decide
      have f14 : decide (([100, 114, 97, 119, 115] : List UInt8) = ([102, 97, 105, 108, 115] : List UInt8)) = false := by decide
      have f15 : decide (([100, 114, 97, 119, 115] : List UInt8) = ([100, 114, 97, 119, 115] : List UInt8)) = true := by decide
      have f16 : decide (([100, 114, 97, 119, 115] : List UInt8) = ([100, 114, 111, 112] : List UInt8)) = false := by decide
      have f17 : decide (([100, 114, 97, 119, 115] : List UInt8) = ([108, 105, 110, 101, 115] : List UInt8)) = false := by decide
      have f18 : decide (([100, 114, 97, 119, 115] : List UInt8) = ([99, 111, 112, 121] : List UInt8)) = false := by decide
      have f19 : decide (([100, 114, 97, 119, 115] : List UInt8) = ([108, 105, 115, 116] : List UInt8)) = false := by decide
      have f20 : decide (([100, 114, 97, 119, 115] : List UInt8) = ([115, 104, 111, 119] : List UInt8)) = false := by decide
      simp (implicitDefEqProofs := false) (disch := omega) only [go_sem, simprocAttr, go_sem, Nat.le_refl, Int.toNat_natCast, Int.toNat_zero, Int.toNat_one, str_eq, sz_bA, tl_bA, Tryd.results13, f0, f1, f2, f3, f4, f5, f6, f7, f8, f9, f10, f11, f12, f13, f14, f15, f16, f17, f18, f19, f20]
      first | done | rfl
    · have f0 : decide (([100, 114, 111, 112] : List UInt8) = ([108, 111, 97, 100] : List UInt8)) = false := by decide
      have f1 : decide (([100, 114, 111, 112] : List UInt8) = ([111, 114, 97, 99, 108, 101] : List UInt8)) = false := by decide
      have f2 : decide (([100, 114, 111, 112] : List UInt8) = ([105, 109, 112, 111, 114, 116] : List UInt8)) = false := by decide
      have f3 : decide (([100, 114, 111, 112] : List UInt8) = ([103, 101, 116] : List UInt8)) = false := by decide
      have f4 : decide (([100, 114, 111, 112] : List UInt8) = ([99, 104, 101, 99, 107] : List UInt8)) = false := by decide
      have f5 : decide (([100, 114, 111, 112] : List UInt8) = ([114, 101, 102, 108, 101, 99, 116] : List UInt8)) = false := by decide
      have f6 : decide (([100, 114, 111, 112] : List UInt8) = ([97, 108, 108] : List UInt8)) = false := by decide
      have f7 : decide (([100, 114, 111, 112] : List UInt8) = ([114, 101, 112, 108, 97, 121] : List UInt8)) = false := by decide
      have f8 : decide (([100, 114, 111, 112] : List UInt8) = ([103, 101, 110, 101, 114, 97, 116, 101] : List UInt8)) = false := by decide
      have f9 : decide (([100, 114, 111, 112] : List UInt8) = ([115, 99, 114, 105, 112, 116] : List UInt8)) = false := by decide
      have f10 : decide (([100, 114, 111, 112] : List UInt8) = ([101, 110, 117, 109] : List UInt8)) = false := by decide
      have f11 : decide (([100, 114, 111, 112] : List UInt8) = ([115, 104, 114, 105, 110, 107] : List UInt8)) = false := by decide
      have f12 : decide (([100, 114, 111, 112] : List UInt8) = ([109, 117, 116, 97, 116, 101] : List UInt8)) = false := by decide
      have f13 : decide (([100, 114, 111, 112] : List UInt8) = ([114, 101, 110, 100, 101, 114] : List UInt8)) = false := by decide
      have f14 : decide (([100, 114, 111, 112] : List UInt8) = ([102, 97, 105, 108, 115] : List UInt8)) = false := by decide
      have f15 : decide (([100, 114, 111, 112] : List UInt8) = ([100, 114, 97, 119, 115] : List UInt8)) = false := by decide
      have f16 : decide (([100, 114, 111, 112] : List UInt8) = ([100, 114, 111, 112] : List UInt8)) = true := by decide
      have f17 : decide (([100, 114, 111, 112] : List UInt8) = ([108, 105, 110, 101, 115] : List UInt8)) = false := by decide
      have f18 : decide (([100, 114, 111, 112] : List UInt8) = ([99, 111, 112, 121] : List UInt8)) = false := by decide
      have f19 : decide (([100, 114, 111, 112] : List UInt8) = ([108, 105, 115, 116] : List UInt8)) = false := by decide
      have f20 : decide (([100, 114, 111, 112] : List UInt8) = ([115, 104, 111, 119] : List UInt8)) = false := by decide
      simp (implicitDefEqProofs := false) (disch := omega) only [go_sem, simprocAttr, go_sem, Nat.le_refl, Int.toNat_natCast, Int.toNat_zero, Int.toNat_one, str_eq, sz_bA, tl_bA, Tryd.results13, f0, f1, f2, f3, f4, f5, f6, f7, f8, f9, f10, f11, f12, f13, f14, f15, f16, f17, f18, f19, f20]
      first | done | rfl
    · have f0 : decide (([108, 105, 110, 101, 115] : List UInt8) = ([108, 111, 97, 100] : List UInt8)) = false := by decide
      have f1 : decide (([108, 105, 110, 101, 115] : List UInt8) = ([111, 114, 97, 99, 108, 101] : List UInt8)) = false := by decide
      have f2 : decide (([108, 105, 110, 101, 115] : List UInt8) = ([105, 109, 112, 111, 114, 116] : List UInt8)) = false := by decide
      have f3 : decide (([108, 105, 110, 101, 115] : List UInt8) = ([103, 101, 116] : List UInt8)) = false := by decide
      have f4 : decide (([108, 105, 110, 101, 115] : List UInt8) = ([99, 104, 101, 99, 107] : List UInt8)) = false := by decide
      have f5 : decide (([108, 105, 110, 101, 115] : List UInt8) = ([114, 101, 102, 108, 101, 99, 116] : List UInt8)) = false := by decide
      have f6 : decide (([108, 105, 110, 101, 115] : List UInt8) = ([97, 108, 108] : List UInt8)) = false := by decide
      have f7 : decide (([108, 105, 110, 101, 115] : List UInt8) = ([114, 101, 112, 108, 97, 121] : List UInt8)) = false := by decide
      have f8 : decide (([108, 105, 110, 101, 115] : List UInt8) = ([103, 101, 110, 101, 114, 97, 116, 101] : List UInt8)) = false := by decide
      have f9 : decide (([108, 105, 110, 101, 115] : List UInt8) = ([115, 99, 114, 105, 112, 116] : List UInt8)) = false := by decide
      have f10 : decide (([108, 105, 110, 101, 115] : List UInt8) = ([101, 110, 117, 109] : List UInt8)) = false := by decide
      have f11 : decide (([108, 105, 110, 101, 115] : List UInt8) = ([115, 104, 114, 105, 110, 107] : List UInt8)) = false := by decide
      have f12 : decide (([108, 105, 110, 101, 115] : List UInt8) = ([109, 117, 116, 97, 116, 101] : List UInt8)) = false := by decide
      have f13 : decide (([108, 105, 110, 101, 115] : List UInt8) = ([114, 101, 110, 100, 101, 114] : List UInt8)) = false := by decide
      have f14 : decide (([108, 105, 110, 101, 115] : List UInt8) = ([102, 97, 105, 108, 115] : List UInt8)) = false := by decide
      have f15 : decide (([108, 105, 110, 101, 115] : List UInt8) = ([100, 114, 97, 119, 115] : List UInt8)) = false := by decide
      have f16 : decide (([108, 105, 110, 101, 115] : List UInt8) = ([100, 114, 111, 112] : List UInt8)) = false := by decide
      have f17 : decide (([108, 105, 110, 101, 115] : List UInt8) = ([108, 105, 110, 101, 115] : List UInt8)) = true := by decide
      have f18 : decide (([108, 105, 110, 101, 115] : List UInt8) = ([99, 111, 112, 121] : List UInt8)) = false := by decide
      have f19 : decide (([108, 105, 110, 101, 115] : List UInt8) = ([108, 105, 115, 116] : List UInt8)) = false := by decide
      have f20 : decide (([108, 105, 110, 101, 115] : List UInt8) = ([115, 104, 111, 119] : List UInt8)) = false := by decide
      simp (implicitDefEqProofs := false) (disch := omega) only [go_sem, simprocAttr, go_sem, Nat.le_refl, Int.toNat_natCast, Int.toNat_zero, Int.toNat_one, str_eq, sz_bA, tl_bA, Tryd.results13, f0, f1, f2, f3, f4, f5, f6, f7, f8, f9, f10, f11, f12, f13, f14, f15, f16, f17, f18, f19, f20]
      first | done | rfl
    · have f0 : decide (([99, 111, 112, 121] : List UInt8) = ([108, 111, 97, 100] : List UInt8)) = false := by decide
      have f1 : decide (([99, 111, 112, 121] : List UInt8) = ([111, 114, 97, 99, 108, 101] : List UInt8)) = false := by decide
      have f2 : decide (([99, 111, 112, 121] : List UInt8) = ([105, 109, 112, 111, 114, 116] : List UInt8)) = false := by decide
      have f3 : decide (([99, 111, 112, 121] : List UInt8) = ([103, 101, 116] : List UInt8)) = false := by decide
      have f4 : decide (([99, 111, 112, 121] : List UInt8) = ([99, 104, 101, 99, 107] : List UInt8)) = false := by decide
      have f5 : decide (([99, 111, 112, 121] : List UInt8) = ([114, 101, 102, 108, 101, 99, 116] : List UInt8)) = false := by decide
      have f6 : decide (([99, 111, 112, 121] : List UInt8) = ([97, 108, 108] : List UInt8)) = false := by decide
      have f7 : decide (([99, 111, 112, 121] : List UInt8) = ([114, 101, 112, 108, 97, 121] : List UInt8)) = false := by decide
      have f8 : decide (([99, 111, 112, 121] : List UInt8) = ([103, 101, 110, 101, 114, 97, 116, 101] : List UInt8)) = false := by decide
      have f9 : decide (([99, 111, 112, 121] : List UInt8) = ([115, 99, 114, 105, 112, 116] : List UInt8)) = false := by decide
      have f10 : decide (([99, 111, 112, 121] : List UInt8) = ([101, 110, 117, 109] : List UInt8)) = false := by decide
      have f11 : decide (([99, 111, 112, 121] : List UInt8) = ([115, 104, 114, 105, 110, 107] : List UInt8)) = false := by decide
      have f12 : decide (([99, 111, 112, 121] : List UInt8) = ([109, 117, 116, 97, 116, 101] : List UInt8)) = false := by decide
      have f13 : decide (([99, 111, 112, 121] : List UInt8) = ([114, 101, 110, 100, 101, 114] : List UInt8)) = false := by decide
      have f14 : decide (([99, 111, 112, 121] : List UInt8) = ([102, 97, 105, 108, 115] : List UInt8)) = false := by decide
      have f15 : decide (([99, 111, 112, 121] : List UInt8) = ([100, 114, 97, 119, 115] : List UInt8)) = false := by decide
      have f16 : decide (([99, 111, 112, 121] : List UInt8) = ([100, 114, 111, 112] : List UInt8)) = false := by decide
      have f17 : decide (([99, 111, 112, 121] : List UInt8) = ([108, 105, 110, 101, 115] : List UInt8)) = false := by decide
      have f18 : decide (([99, 111, 112, 121] : List UInt8) = ([99, 111, 112, 121] : List UInt8)) = true := by decide
      have f19 : decide (([99, 111, 112, 121] : List UInt8) = ([108, 105, 115, 116] : List UInt8)) = false := by decide
      have f20 : decide (([99, 111, 112, 121] : List UInt8) = ([115, 104, 111, 119] : List UInt8)) = false := by decide
      simp (implicitDefEqProofs := false) (disch := omega) only [go_sem, simprocAttr, go_sem, Nat.le_refl, Int.toNat_natCast, Int.toNat_zero, Int.toNat_one, str_eq, sz_bA, tl_bA, Tryd.results13, f0, f1, f2, f3, f4, f5, f6, f7, f8, f9, f10, f11, f12, f13, f14, f15, f16, f17, f18, f19, f20]
      first | done | rfl
    · have f0 : decide (([108, 105, 115, 116] : List UInt8) = ([108, 111, 97, 100] : List UInt8)) = false := by decide
      have f1 : decide (([108, 105, 115, 116] : List UInt8) = ([111, 114, 97, 99, 108, 101] : List UInt8)) = false := by decide
      have f2 : decide (([108, 105, 115, 116] : List UInt8) = ([105, 109, 112, 111, 114, 116] : List UInt8)) = false := by decide
      have f3 : decide (([108, 105, 115, 116] : List UInt8) = ([103, 101, 116] : List UInt8)) = false := by decide
      have f4 : decide (([108, 105, 115, 116] : List UInt8) = ([99, 104, 101, 99, 107] : List UInt8)) = false := by decide
      have f5 : decide (([108, 105, 115, 116] : List UInt8) = ([114, 101, 102, 108, 101, 99, 116] : List UInt8)) = false := by decide
      have f6 : decide (([108, 105, 115, 116] : List UInt8) = ([97, 108, 108] : List UInt8)) = false := by decide
      have f7 : decide (([108, 105, 115, 116] : List UInt8) = ([114, 101, 112, 108, 97, 121] : List UInt8)) = false := by decide
      have f8 : decide (([108, 105, 115, 116] : List UInt8) = ([103, 101, 110, 101, 114, 97, 116, 101] : List UInt8)) = false := by decide
      have f9 : decide (([108, 105, 115, 116] : List UInt8) = ([115, 99, 114, 105, 112, 116] : List UInt8)) = false := by decide
      have f10 : decide (([108, 105, 115, 116] : List UInt8) = ([101, 110, 117, 109] : List UInt8)) = false := by decide
      have f11 : decide (([108, 105, 115, 116] : List UInt8) = ([115, 104, 114, 105, 110, 107] : List UInt8)) = false := by decide
      have f12 : decide (([108, 105, 115, 116] : List UInt8) = ([109, 117, 116, 97, 116, 101] : List UInt8)) = false := by decide
      have f13 : decide (([108, 105, 115, 116] : List UInt8) = ([114, 101, 110, 100, 101, 114] : List UInt8)) = false := by decide
      have f14 : decide (([108, 105, 115, 116] : List UInt8) = ([102, 97, 105, 108, 115] : List UInt8)) = false := by decide
      have f15 : decide (([108, 105, 115, 116] : List UInt8) = ([100, 114, 97, 119, 115] : List UInt8)) = false := by decide
      have f16 : decide (([108, 105, 115, 116] : List UInt8) = ([100, 114, 111, 112] : List UInt8)) = false := by decide
      have f17 : decide (([108, 105, 115, 116] : List UInt8) = ([108, 105, 110, 101, 115] : List UInt8)) = false := by decide
      have f18 : decide (([108, 105, 115, 116] : List UInt8) = ([99, 111, 112, 121] : List UInt8)) = false := by decide
      have f19 : decide (([108, 105, 115, 116] : List UInt8) = ([108, 105, 115, 116] : List UInt8)) = true := by decide
      have f20 : decide (([108, 105, 115, 116] : List UInt8) = ([115, 104, 111, 119] : List UInt8)) = false := by decide
      simp (implicitDefEqProofs := false) (disch := omega) only [go_sem, simprocAttr, go_sem, Nat.le_refl, Int.toNat_natCast, Int.toNat_zero, Int.toNat_one, str_eq, sz_bA, tl_bA, Tryd.results13, f0, f1, f2, f3, f4, f5, f6, f7, f8, f9, f10, f11, f12, f13, f14, f15, f16, f17, f18, f19, f20]
      first | done | rfl
    · have f0 : decide (([115, 104, 111, 119] : List UInt8) = ([108, 111, 97, 100] : List UInt8)) = false := by decide
      have f1 : decide (([115, 104, 111, 119] : List UInt8) = ([111, 114, 97, 99, 108, 101] : List UInt8)) = false := by decide
      have f2 : decide (([115, 104, 111, 119] : List UInt8) = ([105, 109, 112, 111, 114, 116] : List UInt8)) = false := by decide
      have f3 : decide (([115, 104, 111, 119] : List UInt8) = ([103, 101, 116] : List UInt8)) = false := by decide
      have f4 : decide (([115, 104, 111, 119] : List UInt8) = ([99, 104, 101, 99, 107] : List UInt8)) = false := by decide
      have f5 : decide (([115, 104, 111, 119] : List UInt8) = ([114, 101, 102, 108, 101, 99, 116] : List UInt8)) = false := by decide
      have f6 : decide (([115, 104, 111, 119] : List UInt8) = ([97, 108, 108] : List UInt8)) = false := by decide
      have f7 : decide (([115, 104, 111, 119] : List UInt8) = ([114, 101, 112, 108, 97, 121] : List UInt8)) = false := by decide
      have f8 : decide (([115, 104, 111, 119] : List UInt8) = ([103, 101, 110, 101, 114, 97, 116, 101] : List UInt8)) = false := by decide
      have f9 : decide (([115, 104, 111, 119] : List UInt8) = ([115, 99, 114, 105, 112, 116] : List UInt8)) = false := by decide
      have f10 : decide (([115, 104, 111, 119] : List UInt8) = ([101, 110, 117, 109] : List UInt8)) = false := by decide
      have f11 : decide (([115, 104, 111, 119] : List UInt8) = ([115, 104, 114, 105, 110, 107] : List UInt8)) = false := by decide
      have f12 : decide (([115, 104, 111, 119] : List UInt8) = ([109, 117, 116, 97, 116, 101] : List UInt8)) = false := by decide
      have f13 : decide (([115, 104, 111, 119] : List UInt8) = ([114, 101, 110, 100, 101, 114] : List UInt8)) = false := by decide
      have f14 : decide (([115, 104, 111, 119] : List UInt8) = ([102, 97, 105, 108, 115] : List UInt8)) = false := by decide
      have f15 : decide (([115, 104, 111, 119] : List UInt8) = ([100, 114, 97, 119, 115] : List UInt8)) = false := by decide
      have f16 : decide (([115, 104, 111, 119] : List UInt8) = ([100, 114, 111, 112] : List UInt8)) = false := by decide
      have f17 : decide (([115, 104, 111, 119] : List UInt8) = ([108, 105, 110, 101, 115] : List UInt8)) = false := by decide
      have f18 : decide (([115, 104, 111, 119] : List UInt8) = ([99, 111, 112, 121] : List UInt8)) = false := by decide
      have f19 : decide (([115, 104, 111, 119] : List UInt8) = ([108, 105, 115, 116] : List UInt8)) = false := by decide
      have f20 : decide (([115, 104, 111, 119] : List UInt8) = ([115, 104, 111, 119] : List UInt8)) = true := by decide
      simp (implicitDefEqProofs := false) (disch := omega) only [go_sem, simprocAttr, go_sem, Nat.le_refl, Int.toNat_natCast, Int.toNat_zero, Int.toNat_one, str_eq, sz_bA, tl_bA, Tryd.results13, f0, f1, f2, f3, f4, f5, f6, f7, f8, f9, f10, f11, f12, f13, f14, f15, f16, f17, f18, f19, f20]
      first | done | rfl
end Go.Proofs.YtegehnojbfedlaaDoor
