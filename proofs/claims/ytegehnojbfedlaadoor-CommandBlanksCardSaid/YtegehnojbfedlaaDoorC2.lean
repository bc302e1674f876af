/-
  Chapter 25: what a word asks.
-/
import Derived.Test.YtegehnojbfedlaaDoorC1
open Go Go.Proofs Go.Pw Go.RowKit
namespace Go.Proofs.YtegehnojbfedlaaDoor
set_option maxRecDepth 4000
set_option linter.unusedVariables false
set_option linter.unusedSimpArgs false
/-- A word; how many names and numbers it asks; whether a rest. -/
def words : List (List UInt8 × Nat × Nat × Bool) := [
  ([108, 111, 97, 100], 0, 0, true),
  ([111, 114, 97, 99, 108, 101], 0, 0, true),
  ([105, 109, 112, 111, 114, 116], 1, 0, true),
  ([103, 101, 116], 1, 0, true),
  ([99, 104, 101, 99, 107], 2, 1, false),
  ([114, 101, 102, 108, 101, 99, 116], 2, 1, false),
  ([97, 108, 108], 2, 2, false),
  ([114, 101, 112, 108, 97, 121], 2, 1, true),
  ([103, 101, 110, 101, 114, 97, 116, 101], 2, 3, false),
  ([115, 99, 114, 105, 112, 116], 2, 2, true),
  ([101, 110, 117, 109], 1, 2, false),
  ([115, 104, 114, 105, 110, 107], 1, 2, false),
  ([109, 117, 116, 97, 116, 101], 3, 1, true),
  ([114, 101, 110, 100, 101, 114], 1, 0, false),
  ([102, 97, 105, 108, 115], 1, 0, false),
  ([100, 114, 97, 119, 115], 1, 0, false),
  ([100, 114, 111, 112], 1, 0, false),
  ([108, 105, 110, 101, 115], 1, 1, false),
  ([99, 111, 112, 121], 2, 0, false),
  ([108, 105, 115, 116], 0, 0, false),
  ([115, 104, 111, 119], 0, 0, false)]
def asks (l : List UInt8) : Option (Nat × Nat × Bool) := (words.find? fun x => decide (l = x.1)).map (·.2)
theorem asks_some {l : List UInt8} {q : Nat × Nat × Bool} (h : asks l = some q) : (l, q) ∈ words := by
  unfold asks at h
  obtain ⟨x, hx, rfl⟩ := Option.map_eq_some_iff.1 h
  have h1 := List.find?_some hx
  have h2 := List.mem_of_find?_eq_some hx
  simp only [decide_eq_true_eq] at h1
  rw [h1]
  exact h2
theorem asks_none {l : List UInt8} (h : asks l = none) : ∀ x ∈ words, decide (l = x.1) = false := by
  unfold asks at h
  rw [Option.map_eq_none_iff, List.find?_eq_none] at h
  intro x hx
  simpa using h x hx
def shpP (o : Option (Nat × Nat × Bool)) : PV := match o with
  | some (a, b, r) => .tup [.agg [vI a, vI b, vB r], vB true]
  | none => .tup [.agg [vI 0, vI 0, vB false], vB false]
def askP (o : Option (Nat × Nat × Bool)) : PV := match o with
  | some (a, b, r) => .tup [vI a, vI b, vB r]
  | none => .tup [vI (-1), vI 0, vB false]
local notation "w_load" => ([108, 111, 97, 100] : List UInt8)
local notation "w_oracle" => ([111, 114, 97, 99, 108, 101] : List UInt8)
local notation "w_import" => ([105, 109, 112, 111, 114, 116] : List UInt8)
local notation "w_get" => ([103, 101, 116] : List UInt8)
local notation "w_check" => ([99, 104, 101, 99, 107] : List UInt8)
local notation "w_reflect" => ([114, 101, 102, 108, 101, 99, 116] : List UInt8)
local notation "w_all" => ([97, 108, 108] : List UInt8)
local notation "w_replay" => ([114, 101, 112, 108, 97, 121] : List UInt8)
local notation "w_generate" => ([103, 101, 110, 101, 114, 97, 116, 101] : List UInt8)
local notation "w_script" => ([115, 99, 114, 105, 112, 116] : List UInt8)
local notation "w_enum" => ([101, 110, 117, 109] : List UInt8)
local notation "w_shrink" => ([115, 104, 114, 105, 110, 107] : List UInt8)
local notation "w_mutate" => ([109, 117, 116, 97, 116, 101] : List UInt8)
local notation "w_render" => ([114, 101, 110, 100, 101, 114] : List UInt8)
local notation "w_fails" => ([102, 97, 105, 108, 115] : List UInt8)
local notation "w_draws" => ([100, 114, 97, 119, 115] : List UInt8)
local notation "w_drop" => ([100, 114, 111, 112] : List UInt8)
local notation "w_lines" => ([108, 105, 110, 101, 115] : List UInt8)
local notation "w_copy" => ([99, 111, 112, 121] : List UInt8)
local notation "w_list" => ([108, 105, 115, 116] : List UInt8)
local notation "w_show" => ([115, 104, 111, 119] : List UInt8)
set_option maxHeartbeats 4000000 in
theorem shaped_ok (l : List UInt8) : Ok Tryd.prog 28 [vS (bA l)] (shpP (asks l)) := by
  refine Ok.of_pwp (by kernel_rfl) Tryd.func28 rfl (by kernel_rfl) (by kernel_rfl) ?_
  cases h : asks l with
  | none =>
    have g := asks_none h
    unfold words at g
    simp only [List.forall_mem_cons] at g
    obtain ⟨f0, f1, f2, f3, f4, f5, f6, f7, f8, f9, f10, f11, f12, f13, f14, f15, f16, f17, f18, f19, f20, _⟩ := g
    simp (implicitDefEqProofs := false) (disch := omega) only [go_sem, reduceCtorEq, Nat.reduceEqDiff, Nat.reduceBEq, ↓reduceIte, Nat.reduceGT, Nat.reduceAdd, Int.reduceEq, Int.reduceLT, Int.reduceLE, Int.reduceNeg, Int.reduceAdd, Int.reduceSub, Int.reduceMul, Int.reduceDiv, Int.reduceMod, Nat.reduceLT, Nat.reduceLeDiff, Nat.reduceMul, Nat.reduceSub, Int.reduceToNat, go_sem, Nat.le_refl, Int.toNat_natCast, Int.toNat_zero, Int.toNat_one, str_eq, sz_bA, tl_bA, Tryd.results28, f0, f1, f2, f3, f4, f5, f6, f7, f8, f9, f10, f11, f12, f13, f14, f15, f16, f17, f18, f19, f20]
    first | done | rfl
  | some q =>
    have g := asks_some h
    unfold words at g
    simp only [List.mem_cons, List.not_mem_nil, or_false, Prod.mk.injEq] at g
    rcases g with ⟨rfl, rfl⟩ | ⟨rfl, rfl⟩ | ⟨rfl, rfl⟩ | ⟨rfl, rfl⟩ | ⟨rfl, rfl⟩ | ⟨rfl, rfl⟩ | ⟨rfl, rfl⟩ | ⟨rfl, rfl⟩ | ⟨rfl, rfl⟩ | ⟨rfl, rfl⟩ | ⟨rfl, rfl⟩ | ⟨rfl, rfl⟩ | ⟨rfl, rfl⟩ | ⟨rfl, rfl⟩ | ⟨rfl, rfl⟩ | ⟨rfl, rfl⟩ | ⟨rfl, rfl⟩ | ⟨rfl, rfl⟩ | ⟨rfl, rfl⟩ | ⟨rfl, rfl⟩ | ⟨rfl, rfl⟩
    · have f0 : decide (w_load = w_load) = true := by decide
      have f1 : decide (w_load = w_oracle) = false := by decide
      have f2 : decide (w_load = w_import) = false := by decide
      have f3 : decide (w_load = w_get) = false := by decide
      have f4 : decide (w_load = w_check) = false := by decide
      have f5 : decide (w_load = w_reflect) = false := by decide
      have f6 : decide (w_load = w_all) = false := by decide
      have f7 : decide (w_load = w_replay) = false := by decide
      have f8 : decide (w_load = w_generate) = false := by decide
      have f9 : decide (w_load = w_script) = false := by decide
      have f10 : decide (w_load = w_enum) = false := by decide
      have f11 : decide (w_load = w_shrink) = false := by decide
      have f12 : decide (w_load = w_mutate) = false := by decide
      have f13 : decide (w_load = w_render) = false := by decide
      have f14 : decide (w_load = w_fails) = false := by decide
      have f15 : decide (w_load = w_draws) = false := by decide
      have f16 : decide (w_load = w_drop) = false := by decide
      have f17 : decide (w_load = w_lines) = false := by decide
      have f18 : decide (w_load = w_copy) = false := by decide
      have f19 : decide (w_load = w_list) = false := by decide
      have f20 : decide (w_load = w_show) = false := by decide
      simp (implicitDefEqProofs := false) (disch := omega) only [go_sem, reduceCtorEq, Nat.reduceEqDiff, Nat.reduceBEq, ↓reduceIte, Nat.reduceGT, Nat.reduceAdd, Int.reduceEq, Int.reduceLT, Int.reduceLE, Int.reduceNeg, Int.reduceAdd, Int.reduceSub, Int.reduceMul, Int.reduceDiv, Int.reduceMod, Nat.reduceLT, Nat.reduceLeDiff, Nat.reduceMul, Nat.reduceSub, Int.reduceToNat, go_sem, Nat.le_refl, Int.toNat_natCast, Int.toNat_zero, Int.toNat_one, str_eq, sz_bA, tl_bA, Tryd.results28, f0, f1, f2, f3, f4, f5, f6, f7, f8, f9, f10, f11, f12, f13, f14, f15, f16, f17, f18, f19, f20]
      first | done | rfl
    · have f0 : decide (w_oracle = w_load) = false := by decide
      have f1 : decide (w_oracle = w_oracle) = true := by decide
      have f2 : decide (w_oracle = w_import) = false := by decide
      have f3 : decide (w_oracle = w_get) = false := by decide
      have f4 : decide (w_oracle = w_check) = false := by decide
      have f5 : decide (w_oracle = w_reflect) = false := by decide
      have f6 : decide (w_oracle = w_all) = false := by decide
      have f7 : decide (w_oracle = w_replay) = false := by decide
      have f8 : decide (w_oracle = w_generate) = false := by decide
      have f9 : decide (w_oracle = w_script) = false := by decide
      have f10 : decide (w_oracle = w_enum) = false := by decide
      have f11 : decide (w_oracle = w_shrink) = false := by decide
      have f12 : decide (w_oracle = w_mutate) = false := by decide
      have f13 : decide (w_oracle = w_render) = false := by decide
      have f14 : decide (w_oracle = w_fails) = false := by decide
      have f15 : decide (w_oracle = w_draws) = false := by decide
      have f16 : decide (w_oracle = w_drop) = false := by decide
      have f17 : decide (w_oracle = w_lines) = false := by decide
      have f18 : decide (w_oracle = w_copy) = false := by decide
      have f19 : decide (w_oracle = w_list) = false := by decide
      have f20 : decide (w_oracle = w_show) = false := by decide
      simp (implicitDefEqProofs := false) (disch := omega) only [go_sem, reduceCtorEq, Nat.reduceEqDiff, Nat.reduceBEq, ↓reduceIte, Nat.reduceGT, Nat.reduceAdd, Int.reduceEq, Int.reduceLT, Int.reduceLE, Int.reduceNeg, Int.reduceAdd, Int.reduceSub, Int.reduceMul, Int.reduceDiv, Int.reduceMod, Nat.reduceLT, Nat.reduceLeDiff, Nat.reduceMul, Nat.reduceSub, Int.reduceToNat, go_sem, Nat.le_refl, Int.toNat_natCast, Int.toNat_zero, Int.toNat_one, str_eq, sz_bA, tl_bA, Tryd.results28, f0, f1, f2, f3, f4, f5, f6, f7, f8, f9, f10, f11, f12, f13, f14, f15, f16, f17, f18, f19, f20]
      first | done | rfl
    · have f0 : decide (w_import = w_load) = false := by decide
      have f1 : decide (w_import = w_oracle) = false := by decide
      have f2 : decide (w_import = w_import) = true := by decide
      have f3 : decide (w_import = w_get) = false := by decide
      have f4 : decide (w_import = w_check) = false := by decide
      have f5 : decide (w_import = w_reflect) = false := by decide
      have f6 : decide (w_import = w_all) = false := by decide
      have f7 : decide (w_import = w_replay) = false := by decide
      have f8 : decide (w_import = w_generate) = false := by decide
      have f9 : decide (w_import = w_script) = false := by decide
      have f10 : decide (w_import = w_enum) = false := by decide
      have f11 : decide (w_import = w_shrink) = false := by decide
      have f12 : decide (w_import = w_mutate) = false := by decide
      have f13 : decide (w_import = w_render) = false := by decide
      have f14 : decide (w_import = w_fails) = false := by decide
      have f15 : decide (w_import = w_draws) = false := by decide
      have f16 : decide (w_import = w_drop) = false := by decide
      have f17 : decide (w_import = w_lines) = false := by decide
      have f18 : decide (w_import = w_copy) = false := by decide
      have f19 : decide (w_import = w_list) = false := by decide
      have f20 : decide (w_import = w_show) = false := by decide
      simp (implicitDefEqProofs := false) (disch := omega) only [go_sem, reduceCtorEq, Nat.reduceEqDiff, Nat.reduceBEq, ↓reduceIte, Nat.reduceGT, Nat.reduceAdd, Int.reduceEq, Int.reduceLT, Int.reduceLE, Int.reduceNeg, Int.reduceAdd, Int.reduceSub, Int.reduceMul, Int.reduceDiv, Int.reduceMod, Nat.reduceLT, Nat.reduceLeDiff, Nat.reduceMul, Nat.reduceSub, Int.reduceToNat, go_sem, Nat.le_refl, Int.toNat_natCast, Int.toNat_zero, Int.toNat_one, str_eq, sz_bA, tl_bA, Tryd.results28, f0, f1, f2, f3, f4, f5, f6, f7, f8, f9, f10, f11, f12, f13, f14, f15, f16, f17, f18, f19, f20]
      first | done | rfl
    · have f0 : decide (w_get = w_load) = false := by decide
      have f1 : decide (w_get = w_oracle) = false := by decide
      have f2 : decide (w_get = w_import) = false := by decide
      have f3 : decide (w_get = w_get) = true := by decide
      have f4 : decide (w_get = w_check) = false := by decide
      have f5 : decide (w_get = w_reflect) = false := by decide
      have f6 : decide (w_get = w_all) = false := by decide
      have f7 : decide (w_get = w_replay) = false := by decide
      have f8 : decide (w_get = w_generate) = false := by decide
      have f9 : decide (w_get = w_script) = false := by decide
      have f10 : decide (w_get = w_enum) = false := by decide
      have f11 : decide (w_get = w_shrink) = false := by decide
      have f12 : decide (w_get = w_mutate) = false := by decide
      have f13 : decide (w_get = w_render) = false := by decide
      have f14 : decide (w_get = w_fails) = false := by decide
      have f15 : decide (w_get = w_draws) = false := by decide
      have f16 : decide (w_get = w_drop) = false := by decide
      have f17 : decide (w_get = w_lines) = false := by decide
      have f18 : decide (w_get = w_copy) = false := by decide
      have f19 : decide (w_get = w_list) = false := by decide
      have f20 : decide (w_get = w_show) = false := by decide
      simp (implicitDefEqProofs := false) (disch := omega) only [go_sem, reduceCtorEq, Nat.reduceEqDiff, Nat.reduceBEq, ↓reduceIte, Nat.reduceGT, Nat.reduceAdd, Int.reduceEq, Int.reduceLT, Int.reduceLE, Int.reduceNeg, Int.reduceAdd, Int.reduceSub, Int.reduceMul, Int.reduceDiv, Int.reduceMod, Nat.reduceLT, Nat.reduceLeDiff, Nat.reduceMul, Nat.reduceSub, Int.reduceToNat, go_sem, Nat.le_refl, Int.toNat_natCast, Int.toNat_zero, Int.toNat_one, str_eq, sz_bA, tl_bA, Tryd.results28, f0, f1, f2, f3, f4, f5, f6, f7, f8, f9, f10, f11, f12, f13, f14, f15, f16, f17, f18, f19, f20]
      first | done | rfl
    · have f0 : decide (w_check = w_load) = false := by decide
      have f1 : decide (w_check = w_oracle) = false := by decide
      have f2 : decide (w_check = w_import) = false := by decide
      have f3 : decide (w_check = w_get) = false := by decide
      have f4 : decide (w_check = w_check) = true := by decide
      have f5 : decide (w_check = w_reflect) = false := by decide
      have f6 : decide (w_check = w_all) = false := by decide
      have f7 : decide (w_check = w_replay) = false := by decide
      have f8 : decide (w_check = w_generate) = false := by decide
      have f9 : decide (w_check = w_script) = false := by decide
      have f10 : decide (w_check = w_enum) = false := by decide
      have f11 : decide (w_check = w_shrink) = false := by decide
      have f12 : decide (w_check = w_mutate) = false := by decide
      have f13 : decide (w_check = w_render) = false := by decide
      have f14 : decide (w_check = w_fails) = false := by decide
      have f15 : decide (w_check = w_draws) = false := by decide
      have f16 : decide (w_check = w_drop) = false := by decide
      have f17 : decide (w_check = w_lines) = false := by decide
      have f18 : decide (w_check = w_copy) = false := by decide
      have f19 : decide (w_check = w_list) = false := by decide
      have f20 : decide (w_check = w_show) = false := by decide
      simp (implicitDefEqProofs := false) (disch := omega) only [go_sem, reduceCtorEq, Nat.reduceEqDiff, Nat.reduceBEq, ↓reduceIte, Nat.reduceGT, Nat.reduceAdd, Int.reduceEq, Int.reduceLT, Int.reduceLE, Int.reduceNeg, Int.reduceAdd, Int.reduceSub, Int.reduceMul, Int.reduceDiv, Int.reduceMod, Nat.reduceLT, Nat.reduceLeDiff, Nat.reduceMul, Nat.reduceSub, Int.reduceToNat, go_sem, Nat.le_refl, Int.toNat_natCast, Int.toNat_zero, Int.toNat_one, str_eq, sz_bA, tl_bA, Tryd.results28, f0, f1, f2, f3, f4, f5, f6, f7, f8, f9, f10, f11, f12, f13, f14, f15, f16, f17, f18, f19, f20]
      first | done | rfl
    · have f0 : decide (w_reflect = w_load) = false := by decide
      have f1 : decide (w_reflect = w_oracle) = false := by decide
      have f2 : decide (w_reflect = w_import) = false := by decide
      have f3 : decide (w_reflect = w_get) = false := by decide
      have f4 : decide (w_reflect = w_check) = false := by decide
      have f5 : decide (w_reflect = w_reflect) = true := by decide
      have f6 : decide (w_reflect = w_all) = false := by decide
      have f7 : decide (w_reflect = w_replay) = false := by decide
      have f8 : decide (w_reflect = w_generate) = false := by decide
      have f9 : decide (w_reflect = w_script) = false := by decide
      have f10 : decide (w_reflect = w_enum) = false := by decide
      have f11 : decide (w_reflect = w_shrink) = false := by decide
      have f12 : decide (w_reflect = w_mutate) = false := by decide
      have f13 : decide (w_reflect = w_render) = false := by decide
      have f14 : decide (w_reflect = w_fails) = false := by decide
      have f15 : decide (w_reflect = w_draws) = false := by decide
      have f16 : decide (w_reflect = w_drop) = false := by decide
      have f17 : decide (w_reflect = w_lines) = false := by decide
      have f18 : decide (w_reflect = w_copy) = false := by decide
      have f19 : decide (w_reflect = w_list) = false := by decide
      have f20 : decide (w_reflect = w_show) = false := by decide
      simp (implicitDefEqProofs := false) (disch := omega) only [go_sem, reduceCtorEq, Nat.reduceEqDiff, Nat.reduceBEq, ↓reduceIte, Nat.reduceGT, Nat.reduceAdd, Int.reduceEq, Int.reduceLT, Int.reduceLE, Int.reduceNeg, Int.reduceAdd, Int.reduceSub, Int.reduceMul, Int.reduceDiv, Int.reduceMod, Nat.reduceLT, Nat.reduceLeDiff, Nat.reduceMul, Nat.reduceSub, Int.reduceToNat, go_sem, Nat.le_refl, Int.toNat_natCast, Int.toNat_zero, Int.toNat_one, str_eq, sz_bA, tl_bA, Tryd.results28, f0, f1, f2, f3, f4, f5, f6, f7, f8, f9, f10, f11, f12, f13, f14, f15, f16, f17, f18, f19, f20]
      first | done | rfl
    · have f0 : decide (w_all = w_load) = false := by decide
      have f1 : decide (w_all = w_oracle) = false := by decide
      have f2 : decide (w_all = w_import) = false := by decide
      have f3 : decide (w_all = w_get) = false := by decide
      have f4 : decide (w_all = w_check) = false := by decide
      have f5 : decide (w_all = w_reflect) = false := by decide
      have f6 : decide (w_all = w_all) = true := by decide
      have f7 : decide (w_all = w_replay) = false := by decide
      have f8 : decide (w_all = w_generate) = false := by decide
      have f9 : decide (w_all = w_script) = false := by decide
      have f10 : decide (w_all = w_enum) = false := by decide
      have f11 : decide (w_all = w_shrink) = false := by decide
      have f12 : decide (w_all = w_mutate) = false := by decide
      have f13 : decide (w_all = w_render) = false := by decide
      have f14 : decide (w_all = w_fails) = false := by decide
      have f15 : decide (w_all = w_draws) = false := by decide
      have f16 : decide (w_all = w_drop) = false := by decide
      have f17 : decide (w_all = w_lines) = false := by decide
      have f18 : decide (w_all = w_copy) = false := by decide
      have f19 : decide (w_all = w_list) = false := by decide
      have f20 : decide (w_all = w_show) = false := by decide
      simp (implicitDefEqProofs := false) (disch := omega) only [go_sem, reduceCtorEq, Nat.reduceEqDiff, Nat.reduceBEq, ↓reduceIte, Nat.reduceGT, Nat.reduceAdd, Int.reduceEq, Int.reduceLT, Int.reduceLE, Int.reduceNeg, Int.reduceAdd, Int.reduceSub, Int.reduceMul, Int.reduceDiv, Int.reduceMod, Nat.reduceLT, Nat.reduceLeDiff, Nat.reduceMul, Nat.reduceSub, Int.reduceToNat, go_sem, Nat.le_refl, Int.toNat_natCast, Int.toNat_zero, Int.toNat_one, str_eq, sz_bA, tl_bA, Tryd.results28, f0, f1, f2, f3, f4, f5, f6, f7, f8, f9, f10, f11, f12, f13, f14, f15, f16, f17, f18, f19, f20]
      first | done | rfl
    · have f0 : decide (w_replay = w_load) = false := by decide
      have f1 : decide (w_replay = w_oracle) = false := by decide
      have f2 : decide (w_replay = w_import) = false := by decide
      have f3 : decide (w_replay = w_get) = false := by decide
      have f4 : decide (w_replay = w_check) = false := by decide
      have f5 : decide (w_replay = w_reflect) = false := by decide
      have f6 : decide (w_replay = w_all) = false := by decide
      have f7 : decide (w_replay = w_replay) = true := by decide
      have f8 : decide (w_replay = w_generate) = false := by decide
      have f9 : decide (w_replay = w_script) = false := by decide
      have f10 : decide (w_replay = w_enum) = false := by decide
      have f11 : decide (w_replay = w_shrink) = false := by decide
      have f12 : decide (w_replay = w_mutate) = false := by decide
      have f13 : decide (w_replay = w_render) = false := by decide
      have f14 : decide (w_replay = w_fails) = false := by decide
      have f15 : decide (w_replay = w_draws) = false := by decide
      have f16 : decide (w_replay = w_drop) = false := by decide
      have f17 : decide (w_replay = w_lines) = false := by decide
      have f18 : decide (w_replay = w_copy) = false := by decide
      have f19 : decide (w_replay = w_list) = false := by decide
      have f20 : decide (w_replay = w_show) = false := by decide
      simp (implicitDefEqProofs := false) (disch := omega) only [go_sem, reduceCtorEq, Nat.reduceEqDiff, Nat.reduceBEq, ↓reduceIte, Nat.reduceGT, Nat.reduceAdd, Int.reduceEq, Int.reduceLT, Int.reduceLE, Int.reduceNeg, Int.reduceAdd, Int.reduceSub, Int.reduceMul, Int.reduceDiv, Int.reduceMod, Nat.reduceLT, Nat.reduceLeDiff, Nat.reduceMul, Nat.reduceSub, Int.reduceToNat, go_sem, Nat.le_refl, Int.toNat_natCast, Int.toNat_zero, Int.toNat_one, str_eq, sz_bA, tl_bA, Tryd.results28, f0, f1, f2, f3, f4, f5, f6, f7, f8, f9, f10, f11, f12, f13, f14, f15, f16, f17, f18, f19, f20]
      first | done | rfl
    · have f0 : decide (w_generate = w_load) = false := by decide
      have f1 : decide (w_generate = w_oracle) = false := by decide
      have f2 : decide (w_generate = w_import) = false := by decide
      have f3 : decide (w_generate = w_get) = false := by decide
      have f4 : decide (w_generate = w_check) = false := by decide
      have f5 : decide (w_generate = w_reflect) = false := by decide
      have f6 : decide (w_generate = w_all) = false := by decide
      have f7 : decide (w_generate = w_replay) = false := by decide
      have f8 : decide (w_generate = w_generate) = true := by decide
      have f9 : decide (w_generate = w_script) = false := by decide
      have f10 : decide (w_generate = w_enum) = false := by decide
      have f11 : decide (w_generate = w_shrink) = false := by decide
      have f12 : decide (w_generate = w_mutate) = false := by decide
      have f13 : decide (w_generate = w_render) = false := by decide
      have f14 : decide (w_generate = w_fails) = false := by decide
      have f15 : decide (w_generate = w_draws) = false := by decide
      have f16 : decide (w_generate = w_drop) = false := by decide
      have f17 : decide (w_generate = w_lines) = false := by decide
      have f18 : decide (w_generate = w_copy) = false := by decide
      have f19 : decide (w_generate = w_list) = false := by decide
      have f20 : decide (w_generate = w_show) = false := by decide
      simp (implicitDefEqProofs := false) (disch := omega) only [go_sem, reduceCtorEq, Nat.reduceEqDiff, Nat.reduceBEq, ↓reduceIte, Nat.reduceGT, Nat.reduceAdd, Int.reduceEq, Int.reduceLT, Int.reduceLE, Int.reduceNeg, Int.reduceAdd, Int.reduceSub, Int.reduceMul, Int.reduceDiv, Int.reduceMod, Nat.reduceLT, Nat.reduceLeDiff, Nat.reduceMul, Nat.reduceSub, Int.reduceToNat, go_sem, Nat.le_refl, Int.toNat_natCast, Int.toNat_zero, Int.toNat_one, str_eq, sz_bA, tl_bA, Tryd.results28, f0, f1, f2, f3, f4, f5, f6, f7, f8, f9, f10, f11, f12, f13, f14, f15, f16, f17, f18, f19, f20]
      first | done | rfl
    · have f0 : decide (w_script = w_load) = false := by decide
      have f1 : decide (w_script = w_oracle) = false := by decide
      have f2 : decide (w_script = w_import) = false := by decide
      have f3 : decide (w_script = w_get) = false := by decide
      have f4 : decide (w_script = w_check) = false := by decide
      have f5 : decide (w_script = w_reflect) = false := by decide
      have f6 : decide (w_script = w_all) = false := by decide
      have f7 : decide (w_script = w_replay) = false := by decide
      have f8 : decide (w_script = w_generate) = false := by decide
      have f9 : decide (w_script = w_script) = true := by decide
      have f10 : decide (w_script = w_enum) = false := by decide
      have f11 : decide (w_script = w_shrink) = false := by decide
      have f12 : decide (w_script = w_mutate) = false := by decide
      have f13 : decide (w_script = w_render) = false := by decide
      have f14 : decide (w_script = w_fails) = false := by decide
      have f15 : decide (w_script = w_draws) = false := by decide
      have f16 : decide (w_script = w_drop) = false := by decide
      have f17 : decide (w_script = w_lines) = false := by decide
      have f18 : decide (w_script = w_copy) = false := by decide
      have f19 : decide (w_script = w_list) = false := by decide
      have f20 : decide (w_script = w_show) = false := by decide
      simp (implicitDefEqProofs := false) (disch := omega) only [go_sem, reduceCtorEq, Nat.reduceEqDiff, Nat.reduceBEq, ↓reduceIte, Nat.reduceGT, Nat.reduceAdd, Int.reduceEq, Int.reduceLT, Int.reduceLE, Int.reduceNeg, Int.reduceAdd, Int.reduceSub, Int.reduceMul, Int.reduceDiv, Int.reduceMod, Nat.reduceLT, Nat.reduceLeDiff, Nat.reduceMul, Nat.reduceSub, Int.reduceToNat, go_sem, Nat.le_refl, Int.toNat_natCast, Int.toNat_zero, Int.toNat_one, str_eq, sz_bA, tl_bA, Tryd.results28, f0, f1, f2, f3, f4, f5, f6, f7, f8, f9, f10, f11, f12, f13, f14, f15, f16, f17, f18, f19, f20]
      first | done | rfl
    · have f0 : decide (w_enum = w_load) = false := by decide
      have f1 : decide (w_enum = w_oracle) = false := by decide
      have f2 : decide (w_enum = w_import) = false := by decide
      have f3 : decide (w_enum = w_get) = false := by decide
      have f4 : decide (w_enum = w_check) = false := by decide
      have f5 : decide (w_enum = w_reflect) = false := by decide
      have f6 : decide (w_enum = w_all) = false := by decide
      have f7 : decide (w_enum = w_replay) = false := by decide
      have f8 : decide (w_enum = w_generate) = false := by decide
      have f9 : decide (w_enum = w_script) = false := by decide
      have f10 : decide (w_enum = w_enum) = true := by decide
      have f11 : decide (w_enum = w_shrink) = false := by decide
      have f12 : decide (w_enum = w_mutate) = false := by decide
      have f13 : decide (w_enum = w_render) = false := by decide
      have f14 : decide (w_enum = w_fails) = false := by decide
      have f15 : decide (w_enum = w_draws) = false := by decide
      have f16 : decide (w_enum = w_drop) = false := by decide
      have f17 : decide (w_enum = w_lines) = false := by decide
      have f18 : decide (w_enum = w_copy) = false := by decide
      have f19 : decide (w_enum = w_list) = false := by decide
      have f20 : decide (w_enum = w_show) = false := by decide
      simp (implicitDefEqProofs := false) (disch := omega) only [go_sem, reduceCtorEq, Nat.reduceEqDiff, Nat.reduceBEq, ↓reduceIte, Nat.reduceGT, Nat.reduceAdd, Int.reduceEq, Int.reduceLT, Int.reduceLE, Int.reduceNeg, Int.reduceAdd, Int.reduceSub, Int.reduceMul, Int.reduceDiv, Int.reduceMod, Nat.reduceLT, Nat.reduceLeDiff, Nat.reduceMul, Nat.reduceSub, Int.reduceToNat, go_sem, Nat.le_refl, Int.toNat_natCast, Int.toNat_zero, Int.toNat_one, str_eq, sz_bA, tl_bA, Tryd.results28, f0, f1, f2, f3, f4, f5, f6, f7, f8, f9, f10, f11, f12, f13, f14, f15, f16, f17, f18, f19, f20]
      first | done | rfl
    · have f0 : decide (w_shrink = w_load) = false := by decide
      have f1 : decide (w_shrink = w_oracle) = false := by decide
      have f2 : decide (w_shrink = w_import) = false := by decide
      have f3 : decide (w_shrink = w_get) = false := by decide
      have f4 : decide (w_shrink = w_check) = false := by decide
      have f5 : decide (w_shrink = w_reflect) = false := by decide
      have f6 : decide (w_shrink = w_all) = false := by decide
      have f7 : decide (w_shrink = w_replay) = false := by decide
      have f8 : decide (w_shrink = w_generate) = false := by decide
      have f9 : decide (w_shrink = w_script) = false := by decide
      have f10 : decide (w_shrink = w_enum) = false := by decide
      have f11 : decide (w_shrink = w_shrink) = true := by decide
      have f12 : decide (w_shrink = w_mutate) = false := by decide
      have f13 : decide (w_shrink = w_render) = false := by decide
      have f14 : decide (w_shrink = w_fails) = false := by decide
      have f15 : decide (w_shrink = w_draws) = false := by decide
      have f16 : decide (w_shrink = w_drop) = false := by decide
      have f17 : decide (w_shrink = w_lines) = false := by decide
      have f18 : decide (w_shrink = w_copy) = false := by decide
      have f19 : decide (w_shrink = w_list) = false := by decide
      have f20 : decide (w_shrink = w_show) = false := by decide
      simp (implicitDefEqProofs := false) (disch := omega) only [go_sem, reduceCtorEq, Nat.reduceEqDiff, Nat.reduceBEq, ↓reduceIte, Nat.reduceGT, Nat.reduceAdd, Int.reduceEq, Int.reduceLT, Int.reduceLE, Int.reduceNeg, Int.reduceAdd, Int.reduceSub, Int.reduceMul, Int.reduceDiv, Int.reduceMod, Nat.reduceLT, Nat.reduceLeDiff, Nat.reduceMul, Nat.reduceSub, Int.reduceToNat, go_sem, Nat.le_refl, Int.toNat_natCast, Int.toNat_zero, Int.toNat_one, str_eq, sz_bA, tl_bA, Tryd.results28, f0, f1, f2, f3, f4, f5, f6, f7, f8, f9, f10, f11, f12, f13, f14, f15, f16, f17, f18, f19, f20]
      first | done | rfl
    · have f0 : decide (w_mutate = w_load) = false := by decide
      have f1 : decide (w_mutate = w_oracle) = false := by decide
      have f2 : decide (w_mutate = w_import) = false := by decide
      have f3 : decide (w_mutate = w_get) = false := by decide
      have f4 : decide (w_mutate = w_check) = false := by decide
      have f5 : decide (w_mutate = w_reflect) = false := by decide
      have f6 : decide (w_mutate = w_all) = false := by decide
      have f7 : decide (w_mutate = w_replay) = false := by decide
      have f8 : decide (w_mutate = w_generate) = false := by decide
      have f9 : decide (w_mutate = w_script) = false := by decide
      have f10 : decide (w_mutate = w_enum) = false := by decide
      have f11 : decide (w_mutate = w_shrink) = false := by decide
      have f12 : decide (w_mutate = w_mutate) = true := by decide
      have f13 : decide (w_mutate = w_render) = false := by decide
      have f14 : decide (w_mutate = w_fails) = false := by decide
      have f15 : decide (w_mutate = w_draws) = false := by decide
      have f16 : decide (w_mutate = w_drop) = false := by decide
      have f17 : decide (w_mutate = w_lines) = false := by decide
      have f18 : decide (w_mutate = w_copy) = false := by decide
      have f19 : decide (w_mutate = w_list) = false := by decide
      have f20 : decide (w_mutate = w_show) = false := by decide
      simp (implicitDefEqProofs := false) (disch := omega) only [go_sem, reduceCtorEq, Nat.reduceEqDiff, Nat.reduceBEq, ↓reduceIte, Nat.reduceGT, Nat.reduceAdd, Int.reduceEq, Int.reduceLT, Int.reduceLE, Int.reduceNeg, Int.reduceAdd, Int.reduceSub, Int.reduceMul, Int.reduceDiv, Int.reduceMod, Nat.reduceLT, Nat.reduceLeDiff, Nat.reduceMul, Nat.reduceSub, Int.reduceToNat, go_sem, Nat.le_refl, Int.toNat_natCast, Int.toNat_zero, Int.toNat_one, str_eq, sz_bA, tl_bA, Tryd.results28, f0, f1, f2, f3, f4, f5, f6, f7, f8, f9, f10, f11, f12, f13, f14, f15, f16, f17, f18, f19, f20]
      first | done | rfl
    · have f0 : decide (w_render = w_load) = false := by decide
      have f1 : decide (w_render = w_oracle) = false := by decide
      have f2 : decide (w_render = w_import) = false := by decide
      have f3 : decide (w_render = w_get) = false := by decide
      have f4 : decide (w_render = w_check) = false := by decide
      have f5 : decide (w_render = w_reflect) = false := by decide
      have f6 : decide (w_render = w_all) = false := by decide
      have f7 : decide (w_render = w_replay) = false := by decide
      have f8 : decide (w_render = w_generate) = false := by decide
      have f9 : decide (w_render = w_script) = false := by decide
      have f10 : decide (w_render = w_enum) = false := by decide
      have f11 : decide (w_render = w_shrink) = false := by decide
      have f12 : decide (w_render = w_mutate) = false := by decide
      have f13 : decide (w_render = w_render) = true := by decide
      have f14 : decide (w_render = w_fails) = false := by decide
      have f15 : decide (w_render = w_draws) = false := by decide
      have f16 : decide (w_render = w_drop) = false := by decide
      have f17 : decide (w_render = w_lines) = false := by decide
      have f18 : decide (w_render = w_copy) = false := by decide
      have f19 : decide (w_render = w_list) = false := by decide
      have f20 : decide (w_render = w_show) = false := by decide
      simp (implicitDefEqProofs := false) (disch := omega) only [go_sem, reduceCtorEq, Nat.reduceEqDiff, Nat.reduceBEq, ↓reduceIte, Nat.reduceGT, Nat.reduceAdd, Int.reduceEq, Int.reduceLT, Int.reduceLE, Int.reduceNeg, Int.reduceAdd, Int.reduceSub, Int.reduceMul, Int.reduceDiv, Int.reduceMod, Nat.reduceLT, Nat.reduceLeDiff, Nat.reduceMul, Nat.reduceSub, Int.reduceToNat, go_sem, Nat.le_refl, Int.toNat_natCast, Int.toNat_zero, Int.toNat_one, str_eq, sz_bA, tl_bA, Tryd.results28, f0, f1, f2, f3, f4, f5, f6, f7, f8, f9, f10, f11, f12, f13, f14, f15, f16, f17, f18, f19, f20]
      first | done | rfl
    · have f0 : decide (w_fails = w_load) = false := by decide
      have f1 : decide (w_fails = w_oracle) = false := by decide
      have f2 : decide (w_fails = w_import) = false := by decide
      have f3 : decide (w_fails = w_get) = false := by decide
      have f4 : decide (w_fails = w_check) = false := by decide
      have f5 : decide (w_fails = w_reflect) = false := by decide
      have f6 : decide (w_fails = w_all) = false := by decide
      have f7 : decide (w_fails = w_replay) = false := by decide
      have f8 : decide (w_fails = w_generate) = false := by decide
      have f9 : decide (w_fails = w_script) = false := by decide
      have f10 : decide (w_fails = w_enum) = false := by decide
      have f11 : decide (w_fails = w_shrink) = false := by decide
      have f12 : decide (w_fails = w_mutate) = false := by decide
      have f13 : decide (w_fails = w_render) = false := by decide
      have f14 : decide (w_fails = w_fails) = true := by decide
      have f15 : decide (w_fails = w_draws) = false := by decide
      have f16 : decide (w_fails = w_drop) = false := by decide
      have f17 : decide (w_fails = w_lines) = false := by decide
      have f18 : decide (w_fails = w_copy) = false := by decide
      have f19 : decide (w_fails = w_list) = false := by decide
      have f20 : decide (w_fails = w_show) = false := by decide
      simp (implicitDefEqProofs := false) (disch := omega) only [go_sem, reduceCtorEq, Nat.reduceEqDiff, Nat.reduceBEq, ↓reduceIte, Nat.reduceGT, Nat.reduceAdd, Int.reduceEq, Int.reduceLT, Int.reduceLE, Int.reduceNeg, Int.reduceAdd, Int.reduceSub, Int.reduceMul, Int.reduceDiv, Int.reduceMod, Nat.reduceLT, Nat.reduceLeDiff, Nat.reduceMul, Nat.reduceSub, Int.reduceToNat, go_sem, Nat.le_refl, Int.toNat_natCast, Int.toNat_zero, Int.toNat_one, str_eq, sz_bA, tl_bA, Tryd.results28, f0, f1, f2, f3, f4, f5, f6, f7, f8, f9, f10, f11, f12, f13, f14, f15, f16, f17, f18, f19, f20]
      first | done | rfl
    · have f0 : decide (w_draws = w_load) = false := by decide
      have f1 : decide (w_draws = w_oracle) = false := by decide
      have f2 : decide (w_draws = w_import) = false := by decide
      have f3 : decide (w_draws = w_get) = false := by decide
      have f4 : decide (w_draws = w_check) = false := by decide
      have f5 : decide (w_draws = w_reflect) = false := by decide
      have f6 : decide (w_draws = w_all) = false := by decide
      have f7 : decide (w_draws = w_replay) = false := by decide
      have f8 : decide (w_draws = w_generate) = false := by decide
      have f9 : decide (w_draws = w_script) = false := by decide
      have f10 : decide (w_draws = w_enum) = false := by decide
      have f11 : decide (w_draws = w_shrink) = false := by decide
      have f12 : decide (w_draws = w_mutate) = false := by decide
      have f13 : decide (w_draws = w_render) = false := by decide
      have f14 : decide (w_draws = w_fails) = false := by decide
      have f15 : decide (w_draws = w_draws) = true := by decide
      have f16 : decide (w_draws = w_drop) = false := by decide
      have f17 : decide (w_draws = w_lines) = false := by decide
      have f18 : decide (w_draws = w_copy) = false := by decide
      have f19 : decide (w_draws = w_list) = false := by decide
      have f20 : decide (w_draws = w_show) = false := by decide
      simp (implicitDefEqProofs := false) (disch := omega) only [go_sem, reduceCtorEq, Nat.reduceEqDiff, Nat.reduceBEq, ↓reduceIte, Nat.reduceGT, Nat.reduceAdd, Int.reduceEq, Int.reduceLT, Int.reduceLE, Int.reduceNeg, Int.reduceAdd, Int.reduceSub, Int.reduceMul, Int.reduceDiv, Int.reduceMod, Nat.reduceLT, Nat.reduceLeDiff, Nat.reduceMul, Nat.reduceSub, Int.reduceToNat, go_sem, Nat.le_refl, Int.toNat_natCast, Int.toNat_zero, Int.toNat_one, str_eq, sz_bA, tl_bA, Tryd.results28, f0, f1, f2, f3, f4, f5, f6, f7, f8, f9, f10, f11, f12, f13, f14, f15, f16, f17, f18, f19, f20]
      first | done | rfl
    · have f0 : decide (w_drop = w_load) = false := by decide
      have f1 : decide (w_drop = w_oracle) = false := by decide
      have f2 : decide (w_drop = w_import) = false := by decide
      have f3 : decide (w_drop = w_get) = false := by decide
      have f4 : decide (w_drop = w_check) = false := by decide
      have f5 : decide (w_drop = w_reflect) = false := by decide
      have f6 : decide (w_drop = w_all) = false := by decide
      have f7 : decide (w_drop = w_replay) = false := by decide
      have f8 : decide (w_drop = w_generate) = false := by decide
      have f9 : decide (w_drop = w_script) = false := by decide
      have f10 : decide (w_drop = w_enum) = false := by decide
      have f11 : decide (w_drop = w_shrink) = false := by decide
      have f12 : decide (w_drop = w_mutate) = false := by decide
      have f13 : decide (w_drop = w_render) = false := by decide
      have f14 : decide (w_drop = w_fails) = false := by decide
      have f15 : decide (w_drop = w_draws) = false := by decide
      have f16 : decide (w_drop = w_drop) = true := by decide
      have f17 : decide (w_drop = w_lines) = false := by decide
      have f18 : decide (w_drop = w_copy) = false := by decide
      have f19 : decide (w_drop = w_list) = false := by decide
      have f20 : decide (w_drop = w_show) = false := by decide
      simp (implicitDefEqProofs := false) (disch := omega) only [go_sem, reduceCtorEq, Nat.reduceEqDiff, Nat.reduceBEq, ↓reduceIte, Nat.reduceGT, Nat.reduceAdd, Int.reduceEq, Int.reduceLT, Int.reduceLE, Int.reduceNeg, Int.reduceAdd, Int.reduceSub, Int.reduceMul, Int.reduceDiv, Int.reduceMod, Nat.reduceLT, Nat.reduceLeDiff, Nat.reduceMul, Nat.reduceSub, Int.reduceToNat, go_sem, Nat.le_refl, Int.toNat_natCast, Int.toNat_zero, Int.toNat_one, str_eq, sz_bA, tl_bA, Tryd.results28, f0, f1, f2, f3, f4, f5, f6, f7, f8, f9, f10, f11, f12, f13, f14, f15, f16, f17, f18, f19, f20]
      first | done | rfl
    · have f0 : decide (w_lines = w_load) = false := by decide
      have f1 : decide (w_lines = w_oracle) = false := by decide
      have f2 : decide (w_lines = w_import) = false := by decide
      have f3 : decide (w_lines = w_get) = false := by decide
      have f4 : decide (w_lines = w_check) = false := by decide
      have f5 : decide (w_lines = w_reflect) = false := by decide
      have f6 : decide (w_lines = w_all) = false := by decide
      have f7 : decide (w_lines = w_replay) = false := by decide
      have f8 : decide (w_lines = w_generate) = false := by decide
      have f9 : decide (w_lines = w_script) = false := by decide
      have f10 : decide (w_lines = w_enum) = false := by decide
      have f11 : decide (w_lines = w_shrink) = false := by decide
      have f12 : decide (w_lines = w_mutate) = false := by decide
      have f13 : decide (w_lines = w_render) = false := by decide
      have f14 : decide (w_lines = w_fails) = false := by decide
      have f15 : decide (w_lines = w_draws) = false := by decide
      have f16 : decide (w_lines = w_drop) = false := by decide
      have f17 : decide (w_lines = w_lines) = true := by decide
      have f18 : decide (w_lines = w_copy) = false := by decide
      have f19 : decide (w_lines = w_list) = false := by decide
      have f20 : decide (w_lines = w_show) = false := by decide
      simp (implicitDefEqProofs := false) (disch := omega) only [go_sem, reduceCtorEq, Nat.reduceEqDiff, Nat.reduceBEq, ↓reduceIte, Nat.reduceGT, Nat.reduceAdd, Int.reduceEq, Int.reduceLT, Int.reduceLE, Int.reduceNeg, Int.reduceAdd, Int.reduceSub, Int.reduceMul, Int.reduceDiv, Int.reduceMod, Nat.reduceLT, Nat.reduceLeDiff, Nat.reduceMul, Nat.reduceSub, Int.reduceToNat, go_sem, Nat.le_refl, Int.toNat_natCast, Int.toNat_zero, Int.toNat_one, str_eq, sz_bA, tl_bA, Tryd.results28, f0, f1, f2, f3, f4, f5, f6, f7, f8, f9, f10, f11, f12, f13, f14, f15, f16, f17, f18, f19, f20]
      first | done | rfl
    · have f0 : decide (w_copy = w_load) = false := by decide
      have f1 : decide (w_copy = w_oracle) = false := by decide
      have f2 : decide (w_copy = w_import) = false := by decide
      have f3 : decide (w_copy = w_get) = false := by decide
      have f4 : decide (w_copy = w_check) = false := by decide
      have f5 : decide (w_copy = w_reflect) = false := by decide
      have f6 : decide (w_copy = w_all) = false := by decide
      have f7 : decide (w_copy = w_replay) = false := by decide
      have f8 : decide (w_copy = w_generate) = false := by decide
      have f9 : decide (w_copy = w_script) = false := by decide
      have f10 : decide (w_copy = w_enum) = false := by decide
      have f11 : decide (w_copy = w_shrink) = false := by decide
      have f12 : decide (w_copy = w_mutate) = false := by decide
      have f13 : decide (w_copy = w_render) = false := by decide
      have f14 : decide (w_copy = w_fails) = false := by decide
      have f15 : decide (w_copy = w_draws) = false := by decide
      have f16 : decide (w_copy = w_drop) = false := by decide
      have f17 : decide (w_copy = w_lines) = false := by decide
      have f18 : decide (w_copy = w_copy) = true := by decide
      have f19 : decide (w_copy = w_list) = false := by decide
      have f20 : decide (w_copy = w_show) = false := by decide
      simp (implicitDefEqProofs := false) (disch := omega) only [go_sem, reduceCtorEq, Nat.reduceEqDiff, Nat.reduceBEq, ↓reduceIte, Nat.reduceGT, Nat.reduceAdd, Int.reduceEq, Int.reduceLT, Int.reduceLE, Int.reduceNeg, Int.reduceAdd, Int.reduceSub, Int.reduceMul, Int.reduceDiv, Int.reduceMod, Nat.reduceLT, Nat.reduceLeDiff, Nat.reduceMul, Nat.reduceSub, Int.reduceToNat, go_sem, Nat.le_refl, Int.toNat_natCast, Int.toNat_zero, Int.toNat_one, str_eq, sz_bA, tl_bA, Tryd.results28, f0, f1, f2, f3, f4, f5, f6, f7, f8, f9, f10, f11, f12, f13, f14, f15, f16, f17, f18, f19, f20]
      first | done | rfl
    · have f0 : decide (w_list = w_load) = false := by decide
      have f1 : decide (w_list = w_oracle) = false := by decide
      have f2 : decide (w_list = w_import) = false := by decide
      have f3 : decide (w_list = w_get) = false := by decide
      have f4 : decide (w_list = w_check) = false := by decide
      have f5 : decide (w_list = w_reflect) = false := by decide
      have f6 : decide (w_list = w_all) = false := by decide
      have f7 : decide (w_list = w_replay) = false := by decide
      have f8 : decide (w_list = w_generate) = false := by decide
      have f9 : decide (w_list = w_script) = false := by decide
      have f10 : decide (w_list = w_enum) = false := by decide
      have f11 : decide (w_list = w_shrink) = false := by decide
      have f12 : decide (w_list = w_mutate) = false := by decide
      have f13 : decide (w_list = w_render) = false := by decide
      have f14 : decide (w_list = w_fails) = false := by decide
      have f15 : decide (w_list = w_draws) = false := by decide
      have f16 : decide (w_list = w_drop) = false := by decide
      have f17 : decide (w_list = w_lines) = false := by decide
      have f18 : decide (w_list = w_copy) = false := by decide
      have f19 : decide (w_list = w_list) = true := by decide
      have f20 : decide (w_list = w_show) = false := by decide
      simp (implicitDefEqProofs := false) (disch := omega) only [go_sem, reduceCtorEq, Nat.reduceEqDiff, Nat.reduceBEq, ↓reduceIte, Nat.reduceGT, Nat.reduceAdd, Int.reduceEq, Int.reduceLT, Int.reduceLE, Int.reduceNeg, Int.reduceAdd, Int.reduceSub, Int.reduceMul, Int.reduceDiv, Int.reduceMod, Nat.reduceLT, Nat.reduceLeDiff, Nat.reduceMul, Nat.reduceSub, Int.reduceToNat, go_sem, Nat.le_refl, Int.toNat_natCast, Int.toNat_zero, Int.toNat_one, str_eq, sz_bA, tl_bA, Tryd.results28, f0, f1, f2, f3, f4, f5, f6, f7, f8, f9, f10, f11, f12, f13, f14, f15, f16, f17, f18, f19, f20]
      first | done | rfl
    · have f0 : decide (w_show = w_load) = false := by decide
      have f1 : decide (w_show = w_oracle) = false := by decide
      have f2 : decide (w_show = w_import) = false := by decide
      have f3 : decide (w_show = w_get) = false := by decide
      have f4 : decide (w_show = w_check) = false := by decide
      have f5 : decide (w_show = w_reflect) = false := by decide
      have f6 : decide (w_show = w_all) = false := by decide
      have f7 : decide (w_show = w_replay) = false := by decide
      have f8 : decide (w_show = w_generate) = false := by decide
      have f9 : decide (w_show = w_script) = false := by decide
      have f10 : decide (w_show = w_enum) = false := by decide
      have f11 : decide (w_show = w_shrink) = false := by decide
      have f12 : decide (w_show = w_mutate) = false := by decide
      have f13 : decide (w_show = w_render) = false := by decide
      have f14 : decide (w_show = w_fails) = false := by decide
      have f15 : decide (w_show = w_draws) = false := by decide
      have f16 : decide (w_show = w_drop) = false := by decide
      have f17 : decide (w_show = w_lines) = false := by decide
      have f18 : decide (w_show = w_copy) = false := by decide
      have f19 : decide (w_show = w_list) = false := by decide
      have f20 : decide (w_show = w_show) = true := by decide
      simp (implicitDefEqProofs := false) (disch := omega) only [go_sem, reduceCtorEq, Nat.reduceEqDiff, Nat.reduceBEq, ↓reduceIte, Nat.reduceGT, Nat.reduceAdd, Int.reduceEq, Int.reduceLT, Int.reduceLE, Int.reduceNeg, Int.reduceAdd, Int.reduceSub, Int.reduceMul, Int.reduceDiv, Int.reduceMod, Nat.reduceLT, Nat.reduceLeDiff, Nat.reduceMul, Nat.reduceSub, Int.reduceToNat, go_sem, Nat.le_refl, Int.toNat_natCast, Int.toNat_zero, Int.toNat_one, str_eq, sz_bA, tl_bA, Tryd.results28, f0, f1, f2, f3, f4, f5, f6, f7, f8, f9, f10, f11, f12, f13, f14, f15, f16, f17, f18, f19, f20]
      first | done | rfl
set_option maxHeartbeats 4000000 in
theorem asks_ok (l : List UInt8) : Ok Tryd.prog 13 [vS (bA l)] (askP (asks l)) := by
  refine Ok.of_pwp (by kernel_rfl) Tryd.func13 rfl (by kernel_rfl) (by kernel_rfl) ?_
  cases h : asks l with
  | none =>
    have g := asks_none h
    unfold words at g
    simp only [List.forall_mem_cons] at g
    obtain ⟨f0, f1, f2, f3, f4, f5, f6, f7, f8, f9, f10, f11, f12, f13, f14, f15, f16, f17, f18, f19, f20, _⟩ := g
    simp (implicitDefEqProofs := false) (disch := omega) only [go_sem, reduceCtorEq, Nat.reduceEqDiff, Nat.reduceBEq, ↓reduceIte, Nat.reduceGT, Nat.reduceAdd, Int.reduceEq, Int.reduceLT, Int.reduceLE, Int.reduceNeg, Int.reduceAdd, Int.reduceSub, Int.reduceMul, Int.reduceDiv, Int.reduceMod, Nat.reduceLT, Nat.reduceLeDiff, Nat.reduceMul, Nat.reduceSub, Int.reduceToNat, go_sem, Nat.le_refl, Int.toNat_natCast, Int.toNat_zero, Int.toNat_one, str_eq, sz_bA, tl_bA, Tryd.results13, f0, f1, f2, f3, f4, f5, f6, f7, f8, f9, f10, f11, f12, f13, f14, f15, f16, f17, f18, f19, f20]
    first | done | rfl
  | some q =>
    have g := asks_some h
    unfold words at g
    simp only [List.mem_cons, List.not_mem_nil, or_false, Prod.mk.injEq] at g
    rcases g with ⟨rfl, rfl⟩ | ⟨rfl, rfl⟩ | ⟨rfl, rfl⟩ | ⟨rfl, rfl⟩ | ⟨rfl, rfl⟩ | ⟨rfl, rfl⟩ | ⟨rfl, rfl⟩ | ⟨rfl, rfl⟩ | ⟨rfl, rfl⟩ | ⟨rfl, rfl⟩ | ⟨rfl, rfl⟩ | ⟨rfl, rfl⟩ | ⟨rfl, rfl⟩ | ⟨rfl, rfl⟩ | ⟨rfl, rfl⟩ | ⟨rfl, rfl⟩ | ⟨rfl, rfl⟩ | ⟨rfl, rfl⟩ | ⟨rfl, rfl⟩ | ⟨rfl, rfl⟩ | ⟨rfl, rfl⟩
    · have f0 : decide (w_load = w_load) = true := by decide
      have f1 : decide (w_load = w_oracle) = false := by decide
      have f2 : decide (w_load = w_import) = false := by decide
      have f3 : decide (w_load = w_get) = false := by decide
      have f4 : decide (w_load = w_check) = false := by decide
      have f5 : decide (w_load = w_reflect) = false := by decide
      have f6 : decide (w_load = w_all) = false := by decide
      have f7 : decide (w_load = w_replay) = false := by decide
      have f8 : decide (w_load = w_generate) = false := by decide
      have f9 : decide (w_load = w_script) = false := by decide
      have f10 : decide (w_load = w_enum) = false := by decide
      have f11 : decide (w_load = w_shrink) = false := by decide
      have f12 : decide (w_load = w_mutate) = false := by decide
      have f13 : decide (w_load = w_render) = false := by decide
      have f14 : decide (w_load = w_fails) = false := by decide
      have f15 : decide (w_load = w_draws) = false := by decide
      have f16 : decide (w_load = w_drop) = false := by decide
      have f17 : decide (w_load = w_lines) = false := by decide
      have f18 : decide (w_load = w_copy) = false := by decide
      have f19 : decide (w_load = w_list) = false := by decide
      have f20 : decide (w_load = w_show) = false := by decide
      simp (implicitDefEqProofs := false) (disch := omega) only [go_sem, reduceCtorEq, Nat.reduceEqDiff, Nat.reduceBEq, ↓reduceIte, Nat.reduceGT, Nat.reduceAdd, Int.reduceEq, Int.reduceLT, Int.reduceLE, Int.reduceNeg, Int.reduceAdd, Int.reduceSub, Int.reduceMul, Int.reduceDiv, Int.reduceMod, Nat.reduceLT, Nat.reduceLeDiff, Nat.reduceMul, Nat.reduceSub, Int.reduceToNat, go_sem, Nat.le_refl, Int.toNat_natCast, Int.toNat_zero, Int.toNat_one, str_eq, sz_bA, tl_bA, Tryd.results13, f0, f1, f2, f3, f4, f5, f6, f7, f8, f9, f10, f11, f12, f13, f14, f15, f16, f17, f18, f19, f20]
      first | done | rfl
    · have f0 : decide (w_oracle = w_load) = false := by decide
      have f1 : decide (w_oracle = w_oracle) = true := by decide
      have f2 : decide (w_oracle = w_import) = false := by decide
      have f3 : decide (w_oracle = w_get) = false := by decide
      have f4 : decide (w_oracle = w_check) = false := by decide
      have f5 : decide (w_oracle = w_reflect) = false := by decide
      have f6 : decide (w_oracle = w_all) = false := by decide
      have f7 : decide (w_oracle = w_replay) = false := by decide
      have f8 : decide (w_oracle = w_generate) = false := by decide
      have f9 : decide (w_oracle = w_script) = false := by decide
      have f10 : decide (w_oracle = w_enum) = false := by decide
      have f11 : decide (w_oracle = w_shrink) = false := by decide
      have f12 : decide (w_oracle = w_mutate) = false := by decide
      have f13 : decide (w_oracle = w_render) = false := by decide
      have f14 : decide (w_oracle = w_fails) = false := by decide
      have f15 : decide (w_oracle = w_draws) = false := by decide
      have f16 : decide (w_oracle = w_drop) = false := by decide
      have f17 : decide (w_oracle = w_lines) = false := by decide
      have f18 : decide (w_oracle = w_copy) = false := by decide
      have f19 : decide (w_oracle = w_list) = false := by decide
      have f20 : decide (w_oracle = w_show) = false := by decide
      simp (implicitDefEqProofs := false) (disch := omega) only [go_sem, reduceCtorEq, Nat.reduceEqDiff, Nat.reduceBEq, ↓reduceIte, Nat.reduceGT, Nat.reduceAdd, Int.reduceEq, Int.reduceLT, Int.reduceLE, Int.reduceNeg, Int.reduceAdd, Int.reduceSub, Int.reduceMul, Int.reduceDiv, Int.reduceMod, Nat.reduceLT, Nat.reduceLeDiff, Nat.reduceMul, Nat.reduceSub, Int.reduceToNat, go_sem, Nat.le_refl, Int.toNat_natCast, Int.toNat_zero, Int.toNat_one, str_eq, sz_bA, tl_bA, Tryd.results13, f0, f1, f2, f3, f4, f5, f6, f7, f8, f9, f10, f11, f12, f13, f14, f15, f16, f17, f18, f19, f20]
      first | done | rfl
    · have f0 : decide (w_import = w_load) = false := by decide
      have f1 : decide (w_import = w_oracle) = false := by decide
      have f2 : decide (w_import = w_import) = true := by decide
      have f3 : decide (w_import = w_get) = false := by decide
      have f4 : decide (w_import = w_check) = false := by decide
      have f5 : decide (w_import = w_reflect) = false := by decide
      have f6 : decide (w_import = w_all) = false := by decide
      have f7 : decide (w_import = w_replay) = false := by decide
      have f8 : decide (w_import = w_generate) = false := by decide
      have f9 : decide (w_import = w_script) = false := by decide
      have f10 : decide (w_import = w_enum) = false := by decide
      have f11 : decide (w_import = w_shrink) = false := by decide
      have f12 : decide (w_import = w_mutate) = false := by decide
      have f13 : decide (w_import = w_render) = false := by decide
      have f14 : decide (w_import = w_fails) = false := by decide
      have f15 : decide (w_import = w_draws) = false := by decide
      have f16 : decide (w_import = w_drop) = false := by decide
      have f17 : decide (w_import = w_lines) = false := by decide
      have f18 : decide (w_import = w_copy) = false := by decide
      have f19 : decide (w_import = w_list) = false := by decide
      have f20 : decide (w_import = w_show) = false := by decide
      simp (implicitDefEqProofs := false) (disch := omega) only [go_sem, reduceCtorEq, Nat.reduceEqDiff, Nat.reduceBEq, ↓reduceIte, Nat.reduceGT, Nat.reduceAdd, Int.reduceEq, Int.reduceLT, Int.reduceLE, Int.reduceNeg, Int.reduceAdd, Int.reduceSub, Int.reduceMul, Int.reduceDiv, Int.reduceMod, Nat.reduceLT, Nat.reduceLeDiff, Nat.reduceMul, Nat.reduceSub, Int.reduceToNat, go_sem, Nat.le_refl, Int.toNat_natCast, Int.toNat_zero, Int.toNat_one, str_eq, sz_bA, tl_bA, Tryd.results13, f0, f1, f2, f3, f4, f5, f6, f7, f8, f9, f10, f11, f12, f13, f14, f15, f16, f17, f18, f19, f20]
      first | done | rfl
    · have f0 : decide (w_get = w_load) = false := by decide
      have f1 : decide (w_get = w_oracle) = false := by decide
      have f2 : decide (w_get = w_import) = false := by decide
      have f3 : decide (w_get = w_get) = true := by decide
      have f4 : decide (w_get = w_check) = false := by decide
      have f5 : decide (w_get = w_reflect) = false := by decide
      have f6 : decide (w_get = w_all) = false := by decide
      have f7 : decide (w_get = w_replay) = false := by decide
      have f8 : decide (w_get = w_generate) = false := by decide
      have f9 : decide (w_get = w_script) = false := by decide
      have f10 : decide (w_get = w_enum) = false := by decide
      have f11 : decide (w_get = w_shrink) = false := by decide
      have f12 : decide (w_get = w_mutate) = false := by decide
      have f13 : decide (w_get = w_render) = false := by decide
      have f14 : decide (w_get = w_fails) = false := by decide
      have f15 : decide (w_get = w_draws) = false := by decide
      have f16 : decide (w_get = w_drop) = false := by decide
      have f17 : decide (w_get = w_lines) = false := by decide
      have f18 : decide (w_get = w_copy) = false := by decide
      have f19 : decide (w_get = w_list) = false := by decide
      have f20 : decide (w_get = w_show) = false := by decide
      simp (implicitDefEqProofs := false) (disch := omega) only [go_sem, reduceCtorEq, Nat.reduceEqDiff, Nat.reduceBEq, ↓reduceIte, Nat.reduceGT, Nat.reduceAdd, Int.reduceEq, Int.reduceLT, Int.reduceLE, Int.reduceNeg, Int.reduceAdd, Int.reduceSub, Int.reduceMul, Int.reduceDiv, Int.reduceMod, Nat.reduceLT, Nat.reduceLeDiff, Nat.reduceMul, Nat.reduceSub, Int.reduceToNat, go_sem, Nat.le_refl, Int.toNat_natCast, Int.toNat_zero, Int.toNat_one, str_eq, sz_bA, tl_bA, Tryd.results13, f0, f1, f2, f3, f4, f5, f6, f7, f8, f9, f10, f11, f12, f13, f14, f15, f16, f17, f18, f19, f20]
      first | done | rfl
    · have f0 : decide (w_check = w_load) = false := by decide
      have f1 : decide (w_check = w_oracle) = false := by decide
      have f2 : decide (w_check = w_import) = false := by decide
      have f3 : decide (w_check = w_get) = false := by decide
      have f4 : decide (w_check = w_check) = true := by decide
      have f5 : decide (w_check = w_reflect) = false := by decide
      have f6 : decide (w_check = w_all) = false := by decide
      have f7 : decide (w_check = w_replay) = false := by decide
      have f8 : decide (w_check = w_generate) = false := by decide
      have f9 : decide (w_check = w_script) = false := by decide
      have f10 : decide (w_check = w_enum) = false := by decide
      have f11 : decide (w_check = w_shrink) = false := by decide
      have f12 : decide (w_check = w_mutate) = false := by decide
      have f13 : decide (w_check = w_render) = false := by decide
      have f14 : decide (w_check = w_fails) = false := by decide
      have f15 : decide (w_check = w_draws) = false := by decide
      have f16 : decide (w_check = w_drop) = false := by decide
      have f17 : decide (w_check = w_lines) = false := by decide
      have f18 : decide (w_check = w_copy) = false := by decide
      have f19 : decide (w_check = w_list) = false := by decide
      have f20 : decide (w_check = w_show) = false := by decide
      simp (implicitDefEqProofs := false) (disch := omega) only [go_sem, reduceCtorEq, Nat.reduceEqDiff, Nat.reduceBEq, ↓reduceIte, Nat.reduceGT, Nat.reduceAdd, Int.reduceEq, Int.reduceLT, Int.reduceLE, Int.reduceNeg, Int.reduceAdd, Int.reduceSub, Int.reduceMul, Int.reduceDiv, Int.reduceMod, Nat.reduceLT, Nat.reduceLeDiff, Nat.reduceMul, Nat.reduceSub, Int.reduceToNat, go_sem, Nat.le_refl, Int.toNat_natCast, Int.toNat_zero, Int.toNat_one, str_eq, sz_bA, tl_bA, Tryd.results13, f0, f1, f2, f3, f4, f5, f6, f7, f8, f9, f10, f11, f12, f13, f14, f15, f16, f17, f18, f19, f20]
      first | done | rfl
    · have f0 : decide (w_reflect = w_load) = false := by decide
      have f1 : decide (w_reflect = w_oracle) = false := by decide
      have f2 : decide (w_reflect = w_import) = false := by decide
      have f3 : decide (w_reflect = w_get) = false := by decide
      have f4 : decide (w_reflect = w_check) = false := by decide
      have f5 : decide (w_reflect = w_reflect) = true := by decide
      have f6 : decide (w_reflect = w_all) = false := by decide
      have f7 : decide (w_reflect = w_replay) = false := by decide
      have f8 : decide (w_reflect = w_generate) = false := by decide
      have f9 : decide (w_reflect = w_script) = false := by decide
      have f10 : decide (w_reflect = w_enum) = false := by decide
      have f11 : decide (w_reflect = w_shrink) = false := by decide
      have f12 : decide (w_reflect = w_mutate) = false := by decide
      have f13 : decide (w_reflect = w_render) = false := by decide
      have f14 : decide (w_reflect = w_fails) = false := by decide
      have f15 : decide (w_reflect = w_draws) = false := by decide
      have f16 : decide (w_reflect = w_drop) = false := by decide
      have f17 : decide (w_reflect = w_lines) = false := by decide
      have f18 : decide (w_reflect = w_copy) = false := by decide
      have f19 : decide (w_reflect = w_list) = false := by decide
      have f20 : decide (w_reflect = w_show) = false := by decide
      simp (implicitDefEqProofs := false) (disch := omega) only [go_sem, reduceCtorEq, Nat.reduceEqDiff, Nat.reduceBEq, ↓reduceIte, Nat.reduceGT, Nat.reduceAdd, Int.reduceEq, Int.reduceLT, Int.reduceLE, Int.reduceNeg, Int.reduceAdd, Int.reduceSub, Int.reduceMul, Int.reduceDiv, Int.reduceMod, Nat.reduceLT, Nat.reduceLeDiff, Nat.reduceMul, Nat.reduceSub, Int.reduceToNat, go_sem, Nat.le_refl, Int.toNat_natCast, Int.toNat_zero, Int.toNat_one, str_eq, sz_bA, tl_bA, Tryd.results13, f0, f1, f2, f3, f4, f5, f6, f7, f8, f9, f10, f11, f12, f13, f14, f15, f16, f17, f18, f19, f20]
      first | done | rfl
    · have f0 : decide (w_all = w_load) = false := by decide
      have f1 : decide (w_all = w_oracle) = false := by decide
      have f2 : decide (w_all = w_import) = false := by decide
      have f3 : decide (w_all = w_get) = false := by decide
      have f4 : decide (w_all = w_check) = false := by decide
      have f5 : decide (w_all = w_reflect) = false := by decide
      have f6 : decide (w_all = w_all) = true := by decide
      have f7 : decide (w_all = w_replay) = false := by decide
      have f8 : decide (w_all = w_generate) = false := by decide
      have f9 : decide (w_all = w_script) = false := by decide
      have f10 : decide (w_all = w_enum) = false := by decide
      have f11 : decide (w_all = w_shrink) = false := by decide
      have f12 : decide (w_all = w_mutate) = false := by decide
      have f13 : decide (w_all = w_render) = false := by decide
      have f14 : decide (w_all = w_fails) = false := by decide
      have f15 : decide (w_all = w_draws) = false := by decide
      have f16 : decide (w_all = w_drop) = false := by decide
      have f17 : decide (w_all = w_lines) = false := by decide
      have f18 : decide (w_all = w_copy) = false := by decide
      have f19 : decide (w_all = w_list) = false := by decide
      have f20 : decide (w_all = w_show) = false := by decide
      simp (implicitDefEqProofs := false) (disch := omega) only [go_sem, reduceCtorEq, Nat.reduceEqDiff, Nat.reduceBEq, ↓reduceIte, Nat.reduceGT, Nat.reduceAdd, Int.reduceEq, Int.reduceLT, Int.reduceLE, Int.reduceNeg, Int.reduceAdd, Int.reduceSub, Int.reduceMul, Int.reduceDiv, Int.reduceMod, Nat.reduceLT, Nat.reduceLeDiff, Nat.reduceMul, Nat.reduceSub, Int.reduceToNat, go_sem, Nat.le_refl, Int.toNat_natCast, Int.toNat_zero, Int.toNat_one, str_eq, sz_bA, tl_bA, Tryd.results13, f0, f1, f2, f3, f4, f5, f6, f7, f8, f9, f10, f11, f12, f13, f14, f15, f16, f17, f18, f19, f20]
      first | done | rfl
    · have f0 : decide (w_replay = w_load) = false := by decide
      have f1 : decide (w_replay = w_oracle) = false := by decide
      have f2 : decide (w_replay = w_import) = false := by decide
      have f3 : decide (w_replay = w_get) = false := by decide
      have f4 : decide (w_replay = w_check) = false := by decide
      have f5 : decide (w_replay = w_reflect) = false := by decide
      have f6 : decide (w_replay = w_all) = false := by decide
      have f7 : decide (w_replay = w_replay) = true := by decide
      have f8 : decide (w_replay = w_generate) = false := by decide
      have f9 : decide (w_replay = w_script) = false := by decide
      have f10 : decide (w_replay = w_enum) = false := by decide
      have f11 : decide (w_replay = w_shrink) = false := by decide
      have f12 : decide (w_replay = w_mutate) = false := by decide
      have f13 : decide (w_replay = w_render) = false := by decide
      have f14 : decide (w_replay = w_fails) = false := by decide
      have f15 : decide (w_replay = w_draws) = false := by decide
      have f16 : decide (w_replay = w_drop) = false := by decide
      have f17 : decide (w_replay = w_lines) = false := by decide
      have f18 : decide (w_replay = w_copy) = false := by decide
      have f19 : decide (w_replay = w_list) = false := by decide
      have f20 : decide (w_replay = w_show) = false := by decide
      simp (implicitDefEqProofs := false) (disch := omega) only [go_sem, reduceCtorEq, Nat.reduceEqDiff, Nat.reduceBEq, ↓reduceIte, Nat.reduceGT, Nat.reduceAdd, Int.reduceEq, Int.reduceLT, Int.reduceLE, Int.reduceNeg, Int.reduceAdd, Int.reduceSub, Int.reduceMul, Int.reduceDiv, Int.reduceMod, Nat.reduceLT, Nat.reduceLeDiff, Nat.reduceMul, Nat.reduceSub, Int.reduceToNat, go_sem, Nat.le_refl, Int.toNat_natCast, Int.toNat_zero, Int.toNat_one, str_eq, sz_bA, tl_bA, Tryd.results13, f0, f1, f2, f3, f4, f5, f6, f7, f8, f9, f10, f11, f12, f13, f14, f15, f16, f17, f18, f19, f20]
      first | done | rfl
    · have f0 : decide (w_generate = w_load) = false := by decide
      have f1 : decide (w_generate = w_oracle) = false := by decide
      have f2 : decide (w_generate = w_import) = false := by decide
      have f3 : decide (w_generate = w_get) = false := by decide
      have f4 : decide (w_generate = w_check) = false := by decide
      have f5 : decide (w_generate = w_reflect) = false := by decide
      have f6 : decide (w_generate = w_all) = false := by decide
      have f7 : decide (w_generate = w_replay) = false := by decide
      have f8 : decide (w_generate = w_generate) = true := by decide
      have f9 : decide (w_generate = w_script) = false := by decide
      have f10 : decide (w_generate = w_enum) = false := by decide
      have f11 : decide (w_generate = w_shrink) = false := by decide
      have f12 : decide (w_generate = w_mutate) = false := by decide
      have f13 : decide (w_generate = w_render) = false := by decide
      have f14 : decide (w_generate = w_fails) = false := by decide
      have f15 : decide (w_generate = w_draws) = false := by decide
      have f16 : decide (w_generate = w_drop) = false := by decide
      have f17 : decide (w_generate = w_lines) = false := by decide
      have f18 : decide (w_generate = w_copy) = false := by decide
      have f19 : decide (w_generate = w_list) = false := by decide
      have f20 : decide (w_generate = w_show) = false := by decide
      simp (implicitDefEqProofs := false) (disch := omega) only [go_sem, reduceCtorEq, Nat.reduceEqDiff, Nat.reduceBEq, ↓reduceIte, Nat.reduceGT, Nat.reduceAdd, Int.reduceEq, Int.reduceLT, Int.reduceLE, Int.reduceNeg, Int.reduceAdd, Int.reduceSub, Int.reduceMul, Int.reduceDiv, Int.reduceMod, Nat.reduceLT, Nat.reduceLeDiff, Nat.reduceMul, Nat.reduceSub, Int.reduceToNat, go_sem, Nat.le_refl, Int.toNat_natCast, Int.toNat_zero, Int.toNat_one, str_eq, sz_bA, tl_bA, Tryd.results13, f0, f1, f2, f3, f4, f5, f6, f7, f8, f9, f10, f11, f12, f13, f14, f15, f16, f17, f18, f19, f20]
      first | done | rfl
    · have f0 : decide (w_script = w_load) = false := by decide
      have f1 : decide (w_script = w_oracle) = false := by decide
      have f2 : decide (w_script = w_import) = false := by decide
      have f3 : decide (w_script = w_get) = false := by decide
      have f4 : decide (w_script = w_check) = false := by decide
      have f5 : decide (w_script = w_reflect) = false := by decide
      have f6 : decide (w_script = w_all) = false := by decide
      have f7 : decide (w_script = w_replay) = false := by decide
      have f8 : decide (w_script = w_generate) = false := by decide
      have f9 : decide (w_script = w_script) = true := by decide
      have f10 : decide (w_script = w_enum) = false := by decide
      have f11 : decide (w_script = w_shrink) = false := by decide
      have f12 : decide (w_script = w_mutate) = false := by decide
      have f13 : decide (w_script = w_render) = false := by decide
      have f14 : decide (w_script = w_fails) = false := by decide
      have f15 : decide (w_script = w_draws) = false := by decide
      have f16 : decide (w_script = w_drop) = false := by decide
      have f17 : decide (w_script = w_lines) = false := by decide
      have f18 : decide (w_script = w_copy) = false := by decide
      have f19 : decide (w_script = w_list) = false := by decide
      have f20 : decide (w_script = w_show) = false := by decide
      simp (implicitDefEqProofs := false) (disch := omega) only [go_sem, reduceCtorEq, Nat.reduceEqDiff, Nat.reduceBEq, ↓reduceIte, Nat.reduceGT, Nat.reduceAdd, Int.reduceEq, Int.reduceLT, Int.reduceLE, Int.reduceNeg, Int.reduceAdd, Int.reduceSub, Int.reduceMul, Int.reduceDiv, Int.reduceMod, Nat.reduceLT, Nat.reduceLeDiff, Nat.reduceMul, Nat.reduceSub, Int.reduceToNat, go_sem, Nat.le_refl, Int.toNat_natCast, Int.toNat_zero, Int.toNat_one, str_eq, sz_bA, tl_bA, Tryd.results13, f0, f1, f2, f3, f4, f5, f6, f7, f8, f9, f10, f11, f12, f13, f14, f15, f16, f17, f18, f19, f20]
      first | done | rfl
    · have f0 : decide (w_enum = w_load) = false := by decide
      have f1 : decide (w_enum = w_oracle) = false := by decide
      have f2 : decide (w_enum = w_import) = false := by decide
      have f3 : decide (w_enum = w_get) = false := by decide
      have f4 : decide (w_enum = w_check) = false := by decide
      have f5 : decide (w_enum = w_reflect) = false := by decide
      have f6 : decide (w_enum = w_all) = false := by decide
      have f7 : decide (w_enum = w_replay) = false := by decide
      have f8 : decide (w_enum = w_generate) = false := by decide
      have f9 : decide (w_enum = w_script) = false := by decide
      have f10 : decide (w_enum = w_enum) = true := by decide
      have f11 : decide (w_enum = w_shrink) = false := by decide
      have f12 : decide (w_enum = w_mutate) = false := by decide
      have f13 : decide (w_enum = w_render) = false := by decide
      have f14 : decide (w_enum = w_fails) = false := by decide
      have f15 : decide (w_enum = w_draws) = false := by decide
      have f16 : decide (w_enum = w_drop) = false := by decide
      have f17 : decide (w_enum = w_lines) = false := by decide
      have f18 : decide (w_enum = w_copy) = false := by decide
      have f19 : decide (w_enum = w_list) = false := by decide
      have f20 : decide (w_enum = w_show) = false := by decide
      simp (implicitDefEqProofs := false) (disch := omega) only [go_sem, reduceCtorEq, Nat.reduceEqDiff, Nat.reduceBEq, ↓reduceIte, Nat.reduceGT, Nat.reduceAdd, Int.reduceEq, Int.reduceLT, Int.reduceLE, Int.reduceNeg, Int.reduceAdd, Int.reduceSub, Int.reduceMul, Int.reduceDiv, Int.reduceMod, Nat.reduceLT, Nat.reduceLeDiff, Nat.reduceMul, Nat.reduceSub, Int.reduceToNat, go_sem, Nat.le_refl, Int.toNat_natCast, Int.toNat_zero, Int.toNat_one, str_eq, sz_bA, tl_bA, Tryd.results13, f0, f1, f2, f3, f4, f5, f6, f7, f8, f9, f10, f11, f12, f13, f14, f15, f16, f17, f18, f19, f20]
      first | done | rfl
    · have f0 : decide (w_shrink = w_load) = false := by decide
      have f1 : decide (w_shrink = w_oracle) = false := by decide
      have f2 : decide (w_shrink = w_import) = false := by decide
      have f3 : decide (w_shrink = w_get) = false := by decide
      have f4 : decide (w_shrink = w_check) = false := by decide
      have f5 : decide (w_shrink = w_reflect) = false := by decide
      have f6 : decide (w_shrink = w_all) = false := by decide
      have f7 : decide (w_shrink = w_replay) = false := by decide
      have f8 : decide (w_shrink = w_generate) = false := by decide
      have f9 : decide (w_shrink = w_script) = false := by decide
      have f10 : decide (w_shrink = w_enum) = false := by decide
      have f11 : decide (w_shrink = w_shrink) = true := by decide
      have f12 : decide (w_shrink = w_mutate) = false := by decide
      have f13 : decide (w_shrink = w_render) = false := by decide
      have f14 : decide (w_shrink = w_fails) = false := by decide
      have f15 : decide (w_shrink = w_draws) = false := by decide
      have f16 : decide (w_shrink = w_drop) = false := by decide
      have f17 : decide (w_shrink = w_lines) = false := by decide
      have f18 : decide (w_shrink = w_copy) = false := by decide
      have f19 : decide (w_shrink = w_list) = false := by decide
      have f20 : decide (w_shrink = w_show) = false := by decide
      simp (implicitDefEqProofs := false) (disch := omega) only [go_sem, reduceCtorEq, Nat.reduceEqDiff, Nat.reduceBEq, ↓reduceIte, Nat.reduceGT, Nat.reduceAdd, Int.reduceEq, Int.reduceLT, Int.reduceLE, Int.reduceNeg, Int.reduceAdd, Int.reduceSub, Int.reduceMul, Int.reduceDiv, Int.reduceMod, Nat.reduceLT, Nat.reduceLeDiff, Nat.reduceMul, Nat.reduceSub, Int.reduceToNat, go_sem, Nat.le_refl, Int.toNat_natCast, Int.toNat_zero, Int.toNat_one, str_eq, sz_bA, tl_bA, Tryd.results13, f0, f1, f2, f3, f4, f5, f6, f7, f8, f9, f10, f11, f12, f13, f14, f15, f16, f17, f18, f19, f20]
      first | done | rfl
    · have f0 : decide (w_mutate = w_load) = false := by decide
      have f1 : decide (w_mutate = w_oracle) = false := by decide
      have f2 : decide (w_mutate = w_import) = false := by decide
      have f3 : decide (w_mutate = w_get) = false := by decide
      have f4 : decide (w_mutate = w_check) = false := by decide
      have f5 : decide (w_mutate = w_reflect) = false := by decide
      have f6 : decide (w_mutate = w_all) = false := by decide
      have f7 : decide (w_mutate = w_replay) = false := by decide
      have f8 : decide (w_mutate = w_generate) = false := by decide
      have f9 : decide (w_mutate = w_script) = false := by decide
      have f10 : decide (w_mutate = w_enum) = false := by decide
      have f11 : decide (w_mutate = w_shrink) = false := by decide
      have f12 : decide (w_mutate = w_mutate) = true := by decide
      have f13 : decide (w_mutate = w_render) = false := by decide
      have f14 : decide (w_mutate = w_fails) = false := by decide
      have f15 : decide (w_mutate = w_draws) = false := by decide
      have f16 : decide (w_mutate = w_drop) = false := by decide
      have f17 : decide (w_mutate = w_lines) = false := by decide
      have f18 : decide (w_mutate = w_copy) = false := by decide
      have f19 : decide (w_mutate = w_list) = false := by decide
      have f20 : decide (w_mutate = w_show) = false := by decide
      simp (implicitDefEqProofs := false) (disch := omega) only [go_sem, reduceCtorEq, Nat.reduceEqDiff, Nat.reduceBEq, ↓reduceIte, Nat.reduceGT, Nat.reduceAdd, Int.reduceEq, Int.reduceLT, Int.reduceLE, Int.reduceNeg, Int.reduceAdd, Int.reduceSub, Int.reduceMul, Int.reduceDiv, Int.reduceMod, Nat.reduceLT, Nat.reduceLeDiff, Nat.reduceMul, Nat.reduceSub, Int.reduceToNat, go_sem, Nat.le_refl, Int.toNat_natCast, Int.toNat_zero, Int.toNat_one, str_eq, sz_bA, tl_bA, Tryd.results13, f0, f1, f2, f3, f4, f5, f6, f7, f8, f9, f10, f11, f12, f13, f14, f15, f16, f17, f18, f19, f20]
      first | done | rfl
    · have f0 : decide (w_render = w_load) = false := by decide
      have f1 : decide (w_render = w_oracle) = false := by decide
      have f2 : decide (w_render = w_import) = false := by decide
      have f3 : decide (w_render = w_get) = false := by decide
      have f4 : decide (w_render = w_check) = false := by decide
      have f5 : decide (w_render = w_reflect) = false := by decide
      have f6 : decide (w_render = w_all) = false := by decide
      have f7 : decide (w_render = w_replay) = false := by decide
      have f8 : decide (w_render = w_generate) = false := by decide
      have f9 : decide (w_render = w_script) = false := by decide
      have f10 : decide (w_render = w_enum) = false := by decide
      have f11 : decide (w_render = w_shrink) = false := by decide
      have f12 : decide (w_render = w_mutate) = false := by decide
      have f13 : decide (w_render = w_render) = true := by decide
      have f14 : decide (w_render = w_fails) = false := by decide
      have f15 : decide (w_render = w_draws) = false := by decide
      have f16 : decide (w_render = w_drop) = false := by decide
      have f17 : decide (w_render = w_lines) = false := by decide
      have f18 : decide (w_render = w_copy) = false := by decide
      have f19 : decide (w_render = w_list) = false := by decide
      have f20 : decide (w_render = w_show) = false := by decide
      simp (implicitDefEqProofs := false) (disch := omega) only [go_sem, reduceCtorEq, Nat.reduceEqDiff, Nat.reduceBEq, ↓reduceIte, Nat.reduceGT, Nat.reduceAdd, Int.reduceEq, Int.reduceLT, Int.reduceLE, Int.reduceNeg, Int.reduceAdd, Int.reduceSub, Int.reduceMul, Int.reduceDiv, Int.reduceMod, Nat.reduceLT, Nat.reduceLeDiff, Nat.reduceMul, Nat.reduceSub, Int.reduceToNat, go_sem, Nat.le_refl, Int.toNat_natCast, Int.toNat_zero, Int.toNat_one, str_eq, sz_bA, tl_bA, Tryd.results13, f0, f1, f2, f3, f4, f5, f6, f7, f8, f9, f10, f11, f12, f13, f14, f15, f16, f17, f18, f19, f20]
      first | done | rfl
    · have f0 : decide (w_fails = w_load) = false := by decide
      have f1 : decide (w_fails = w_oracle) = false := by decide
      have f2 : decide (w_fails = w_import) = false := by decide
      have f3 : decide (w_fails = w_get) = false := by decide
      have f4 : decide (w_fails = w_check) = false := by decide
      have f5 : decide (w_fails = w_reflect) = false := by decide
      have f6 : decide (w_fails = w_all) = false := by decide
      have f7 : decide (w_fails = w_replay) = false := by decide
      have f8 : decide (w_fails = w_generate) = false := by decide
      have f9 : decide (w_fails = w_script) = false := by decide
      have f10 : decide (w_fails = w_enum) = false := by decide
      have f11 : decide (w_fails = w_shrink) = false := by decide
      have f12 : decide (w_fails = w_mutate) = false := by decide
      have f13 : decide (w_fails = w_render) = false := by decide
      have f14 : decide (w_fails = w_fails) = true := by decide
      have f15 : decide (w_fails = w_draws) = false := by decide
      have f16 : decide (w_fails = w_drop) = false := by decide
      have f17 : decide (w_fails = w_lines) = false := by decide
      have f18 : decide (w_fails = w_copy) = false := by decide
      have f19 : decide (w_fails = w_list) = false := by decide
      have f20 : decide (w_fails = w_show) = false := by decide
      simp (implicitDefEqProofs := false) (disch := omega) only [go_sem, reduceCtorEq, Nat.reduceEqDiff, Nat.reduceBEq, ↓reduceIte, Nat.reduceGT, Nat.reduceAdd, Int.reduceEq, Int.reduceLT, Int.reduceLE, Int.reduceNeg, Int.reduceAdd, Int.reduceSub, Int.reduceMul, Int.reduceDiv, Int.reduceMod, Nat.reduceLT, Nat.reduceLeDiff, Nat.reduceMul, Nat.reduceSub, Int.reduceToNat, go_sem, Nat.le_refl, Int.toNat_natCast, Int.toNat_zero, Int.toNat_one, str_eq, sz_bA, tl_bA, Tryd.results13, f0, f1, f2, f3, f4, f5, f6, f7, f8, f9, f10, f11, f12, f13, f14, f15, f16, f17, f18, f19, f20]
      first | done | rfl
    · have f0 : decide (w_draws = w_load) = false := by decide
      have f1 : decide (w_draws = w_oracle) = false := by decide
      have f2 : decide (w_draws = w_import) = false := by decide
      have f3 : decide (w_draws = w_get) = false := by decide
      have f4 : decide (w_draws = w_check) = false := by decide
      have f5 : decide (w_draws = w_reflect) = false := by decide
      have f6 : decide (w_draws = w_all) = false := by decide
      have f7 : decide (w_draws = w_replay) = false := by decide
      have f8 : decide (w_draws = w_generate) = false := by decide
      have f9 : decide (w_draws = w_script) = false := by decide
      have f10 : decide (w_draws = w_enum) = false := by decide
      have f11 : decide (w_draws = w_shrink) = false := by decide
      have f12 : decide (w_draws = w_mutate) = false := by decide
      have f13 : decide (w_draws = w_render) = false := by decide
      have f14 : decide (w_draws = w_fails) = false := by decide
      have f15 : decide (w_draws = w_draws) = true := by decide
      have f16 : decide (w_draws = w_drop) = false := by decide
      have f17 : decide (w_draws = w_lines) = false := by decide
      have f18 : decide (w_draws = w_copy) = false := by decide
      have f19 : decide (w_draws = w_list) = false := by decide
      have f20 : decide (w_draws = w_show) = false := by decide
      simp (implicitDefEqProofs := false) (disch := omega) only [go_sem, reduceCtorEq, Nat.reduceEqDiff, Nat.reduceBEq, ↓reduceIte, Nat.reduceGT, Nat.reduceAdd, Int.reduceEq, Int.reduceLT, Int.reduceLE, Int.reduceNeg, Int.reduceAdd, Int.reduceSub, Int.reduceMul, Int.reduceDiv, Int.reduceMod, Nat.reduceLT, Nat.reduceLeDiff, Nat.reduceMul, Nat.reduceSub, Int.reduceToNat, go_sem, Nat.le_refl, Int.toNat_natCast, Int.toNat_zero, Int.toNat_one, str_eq, sz_bA, tl_bA, Tryd.results13, f0, f1, f2, f3, f4, f5, f6, f7, f8, f9, f10, f11, f12, f13, f14, f15, f16, f17, f18, f19, f20]
      first | done | rfl
    · have f0 : decide (w_drop = w_load) = false := by decide
      have f1 : decide (w_drop = w_oracle) = false := by decide
      have f2 : decide (w_drop = w_import) = false := by decide
      have f3 : decide (w_drop = w_get) = false := by decide
      have f4 : decide (w_drop = w_check) = false := by decide
      have f5 : decide (w_drop = w_reflect) = false := by decide
      have f6 : decide (w_drop = w_all) = false := by decide
      have f7 : decide (w_drop = w_replay) = false := by decide
      have f8 : decide (w_drop = w_generate) = false := by decide
      have f9 : decide (w_drop = w_script) = false := by decide
      have f10 : decide (w_drop = w_enum) = false := by decide
      have f11 : decide (w_drop = w_shrink) = false := by decide
      have f12 : decide (w_drop = w_mutate) = false := by decide
      have f13 : decide (w_drop = w_render) = false := by decide
      have f14 : decide (w_drop = w_fails) = false := by decide
      have f15 : decide (w_drop = w_draws) = false := by decide
      have f16 : decide (w_drop = w_drop) = true := by decide
      have f17 : decide (w_drop = w_lines) = false := by decide
      have f18 : decide (w_drop = w_copy) = false := by decide
      have f19 : decide (w_drop = w_list) = false := by decide
      have f20 : decide (w_drop = w_show) = false := by decide
      simp (implicitDefEqProofs := false) (disch := omega) only [go_sem, reduceCtorEq, Nat.reduceEqDiff, Nat.reduceBEq, ↓reduceIte, Nat.reduceGT, Nat.reduceAdd, Int.reduceEq, Int.reduceLT, Int.reduceLE, Int.reduceNeg, Int.reduceAdd, Int.reduceSub, Int.reduceMul, Int.reduceDiv, Int.reduceMod, Nat.reduceLT, Nat.reduceLeDiff, Nat.reduceMul, Nat.reduceSub, Int.reduceToNat, go_sem, Nat.le_refl, Int.toNat_natCast, Int.toNat_zero, Int.toNat_one, str_eq, sz_bA, tl_bA, Tryd.results13, f0, f1, f2, f3, f4, f5, f6, f7, f8, f9, f10, f11, f12, f13, f14, f15, f16, f17, f18, f19, f20]
      first | done | rfl
    · have f0 : decide (w_lines = w_load) = false := by decide
      have f1 : decide (w_lines = w_oracle) = false := by decide
      have f2 : decide (w_lines = w_import) = false := by decide
      have f3 : decide (w_lines = w_get) = false := by decide
      have f4 : decide (w_lines = w_check) = false := by decide
      have f5 : decide (w_lines = w_reflect) = false := by decide
      have f6 : decide (w_lines = w_all) = false := by decide
      have f7 : decide (w_lines = w_replay) = false := by decide
      have f8 : decide (w_lines = w_generate) = false := by decide
      have f9 : decide (w_lines = w_script) = false := by decide
      have f10 : decide (w_lines = w_enum) = false := by decide
      have f11 : decide (w_lines = w_shrink) = false := by decide
      have f12 : decide (w_lines = w_mutate) = false := by decide
      have f13 : decide (w_lines = w_render) = false := by decide
      have f14 : decide (w_lines = w_fails) = false := by decide
      have f15 : decide (w_lines = w_draws) = false := by decide
      have f16 : decide (w_lines = w_drop) = false := by decide
      have f17 : decide (w_lines = w_lines) = true := by decide
      have f18 : decide (w_lines = w_copy) = false := by decide
      have f19 : decide (w_lines = w_list) = false := by decide
      have f20 : decide (w_lines = w_show) = false := by decide
      simp (implicitDefEqProofs := false) (disch := omega) only [go_sem, reduceCtorEq, Nat.reduceEqDiff, Nat.reduceBEq, ↓reduceIte, Nat.reduceGT, Nat.reduceAdd, Int.reduceEq, Int.reduceLT, Int.reduceLE, Int.reduceNeg, Int.reduceAdd, Int.reduceSub, Int.reduceMul, Int.reduceDiv, Int.reduceMod, Nat.reduceLT, Nat.reduceLeDiff, Nat.reduceMul, Nat.reduceSub, Int.reduceToNat, go_sem, Nat.le_refl, Int.toNat_natCast, Int.toNat_zero, Int.toNat_one, str_eq, sz_bA, tl_bA, Tryd.results13, f0, f1, f2, f3, f4, f5, f6, f7, f8, f9, f10, f11, f12, f13, f14, f15, f16, f17, f18, f19, f20]
      first | done | rfl
    · have f0 : decide (w_copy = w_load) = false := by decide
      have f1 : decide (w_copy = w_oracle) = false := by decide
      have f2 : decide (w_copy = w_import) = false := by decide
      have f3 : decide (w_copy = w_get) = false := by decide
      have f4 : decide (w_copy = w_check) = false := by decide
      have f5 : decide (w_copy = w_reflect) = false := by decide
      have f6 : decide (w_copy = w_all) = false := by decide
      have f7 : decide (w_copy = w_replay) = false := by decide
      have f8 : decide (w_copy = w_generate) = false := by decide
      have f9 : decide (w_copy = w_script) = false := by decide
      have f10 : decide (w_copy = w_enum) = false := by decide
      have f11 : decide (w_copy = w_shrink) = false := by decide
      have f12 : decide (w_copy = w_mutate) = false := by decide
      have f13 : decide (w_copy = w_render) = false := by decide
      have f14 : decide (w_copy = w_fails) = false := by decide
      have f15 : decide (w_copy = w_draws) = false := by decide
      have f16 : decide (w_copy = w_drop) = false := by decide
      have f17 : decide (w_copy = w_lines) = false := by decide
      have f18 : decide (w_copy = w_copy) = true := by decide
      have f19 : decide (w_copy = w_list) = false := by decide
      have f20 : decide (w_copy = w_show) = false := by decide
      simp (implicitDefEqProofs := false) (disch := omega) only [go_sem, reduceCtorEq, Nat.reduceEqDiff, Nat.reduceBEq, ↓reduceIte, Nat.reduceGT, Nat.reduceAdd, Int.reduceEq, Int.reduceLT, Int.reduceLE, Int.reduceNeg, Int.reduceAdd, Int.reduceSub, Int.reduceMul, Int.reduceDiv, Int.reduceMod, Nat.reduceLT, Nat.reduceLeDiff, Nat.reduceMul, Nat.reduceSub, Int.reduceToNat, go_sem, Nat.le_refl, Int.toNat_natCast, Int.toNat_zero, Int.toNat_one, str_eq, sz_bA, tl_bA, Tryd.results13, f0, f1, f2, f3, f4, f5, f6, f7, f8, f9, f10, f11, f12, f13, f14, f15, f16, f17, f18, f19, f20]
      first | done | rfl
    · have f0 : decide (w_list = w_load) = false := by decide
      have f1 : decide (w_list = w_oracle) = false := by decide
      have f2 : decide (w_list = w_import) = false := by decide
      have f3 : decide (w_list = w_get) = false := by decide
      have f4 : decide (w_list = w_check) = false := by decide
      have f5 : decide (w_list = w_reflect) = false := by decide
      have f6 : decide (w_list = w_all) = false := by decide
      have f7 : decide (w_list = w_replay) = false := by decide
      have f8 : decide (w_list = w_generate) = false := by decide
      have f9 : decide (w_list = w_script) = false := by decide
      have f10 : decide (w_list = w_enum) = false := by decide
      have f11 : decide (w_list = w_shrink) = false := by decide
      have f12 : decide (w_list = w_mutate) = false := by decide
      have f13 : decide (w_list = w_render) = false := by decide
      have f14 : decide (w_list = w_fails) = false := by decide
      have f15 : decide (w_list = w_draws) = false := by decide
      have f16 : decide (w_list = w_drop) = false := by decide
      have f17 : decide (w_list = w_lines) = false := by decide
      have f18 : decide (w_list = w_copy) = false := by decide
      have f19 : decide (w_list = w_list) = true := by decide
      have f20 : decide (w_list = w_show) = false := by decide
      simp (implicitDefEqProofs := false) (disch := omega) only [go_sem, reduceCtorEq, Nat.reduceEqDiff, Nat.reduceBEq, ↓reduceIte, Nat.reduceGT, Nat.reduceAdd, Int.reduceEq, Int.reduceLT, Int.reduceLE, Int.reduceNeg, Int.reduceAdd, Int.reduceSub, Int.reduceMul, Int.reduceDiv, Int.reduceMod, Nat.reduceLT, Nat.reduceLeDiff, Nat.reduceMul, Nat.reduceSub, Int.reduceToNat, go_sem, Nat.le_refl, Int.toNat_natCast, Int.toNat_zero, Int.toNat_one, str_eq, sz_bA, tl_bA, Tryd.results13, f0, f1, f2, f3, f4, f5, f6, f7, f8, f9, f10, f11, f12, f13, f14, f15, f16, f17, f18, f19, f20]
      first | done | rfl
    · have f0 : decide (w_show = w_load) = false := by decide
      have f1 : decide (w_show = w_oracle) = false := by decide
      have f2 : decide (w_show = w_import) = false := by decide
      have f3 : decide (w_show = w_get) = false := by decide
      have f4 : decide (w_show = w_check) = false := by decide
      have f5 : decide (w_show = w_reflect) = false := by decide
      have f6 : decide (w_show = w_all) = false := by decide
      have f7 : decide (w_show = w_replay) = false := by decide
      have f8 : decide (w_show = w_generate) = false := by decide
      have f9 : decide (w_show = w_script) = false := by decide
      have f10 : decide (w_show = w_enum) = false := by decide
      have f11 : decide (w_show = w_shrink) = false := by decide
      have f12 : decide (w_show = w_mutate) = false := by decide
      have f13 : decide (w_show = w_render) = false := by decide
      have f14 : decide (w_show = w_fails) = false := by decide
      have f15 : decide (w_show = w_draws) = false := by decide
      have f16 : decide (w_show = w_drop) = false := by decide
      have f17 : decide (w_show = w_lines) = false := by decide
      have f18 : decide (w_show = w_copy) = false := by decide
      have f19 : decide (w_show = w_list) = false := by decide
      have f20 : decide (w_show = w_show) = true := by decide
      simp (implicitDefEqProofs := false) (disch := omega) only [go_sem, reduceCtorEq, Nat.reduceEqDiff, Nat.reduceBEq, ↓reduceIte, Nat.reduceGT, Nat.reduceAdd, Int.reduceEq, Int.reduceLT, Int.reduceLE, Int.reduceNeg, Int.reduceAdd, Int.reduceSub, Int.reduceMul, Int.reduceDiv, Int.reduceMod, Nat.reduceLT, Nat.reduceLeDiff, Nat.reduceMul, Nat.reduceSub, Int.reduceToNat, go_sem, Nat.le_refl, Int.toNat_natCast, Int.toNat_zero, Int.toNat_one, str_eq, sz_bA, tl_bA, Tryd.results13, f0, f1, f2, f3, f4, f5, f6, f7, f8, f9, f10, f11, f12, f13, f14, f15, f16, f17, f18, f19, f20]
      first | done | rfl
end Go.Proofs.YtegehnojbfedlaaDoor
