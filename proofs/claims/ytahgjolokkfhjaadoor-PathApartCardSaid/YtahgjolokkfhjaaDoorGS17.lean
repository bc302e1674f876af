import Derived.Test.YtahgjolokkfhjaaDoorGS15
/-
  A value's copy: the same, in memory of its own.
-/
open Go Go.Proofs Go.Pw Go.RowKit
namespace Go.Proofs.YtahgjolokkfhjaaDoor
set_option maxRecDepth 4000
set_option linter.unusedVariables false
set_option linter.unusedSimpArgs false

def c01_I (k : Int) (b : Bool) (n : Int) (s : ByteArray) (x : V) (xs : List V) (y : ByteArray) (ys : List ByteArray) : Nat → Nat × Nat × List PV × Nat × Nat × List PV → PS := fun i d => match i with
  | 0 => ⟨[(3, .ptr 3 0), (1, .ptr 0 0), (2, .ptr 1 0)], [(3, .box 32 [vI k, vB b, vI n, vS s, .sl ([]), .sl (encT (y :: ys))]), (1, .box 32 [vI 0, vB false, vI 0, vS ByteArray.empty, vNil, vNil]), (0, .box 32 [vI k, vB b, vI n, vS s, .sl ([]), .sl (encT (y :: ys))])], [], 5, 5⟩
  | 1 => ⟨[(3, .ptr 3 0), (1, .ptr 0 0), (2, .ptr 1 0), (6, .ptr 0 5)], [(3, .box 32 [vI k, vB b, vI n, vS s, .sl ([]), .sl (encT (y :: ys))]), (1, .box 32 [vI 0, vB false, vI 0, vS ByteArray.empty, vNil, vNil]), (0, .box 32 [vI k, vB b, vI n, vS s, .sl ([]), .sl (encT (y :: ys))])], [], 6, 6⟩
  | 2 => ⟨[(3, .ptr 3 0), (1, .ptr 0 0), (2, .ptr 1 0), (9, .ptr 0 4)], [(3, .box 32 [vI k, vB b, vI n, vS s, .sl ([]), .sl (encT (y :: ys))]), (1, .box 32 [vI 0, vB false, vI 0, vS ByteArray.empty, vNil, vNil]), (0, .box 32 [vI k, vB b, vI n, vS s, .sl ([]), .sl (encT (y :: ys))])], [], 6, 6⟩
  | 3 => ⟨[(3, .ptr 3 0), (1, .ptr 0 0), (2, .ptr 1 0), (6, .ptr 0 5), (7, .sl (encT (y :: ys)))], [(3, .box 32 [vI k, vB b, vI n, vS s, .sl ([]), .sl (encT (y :: ys))]), (1, .box 32 [vI 0, vB false, vI 0, vS ByteArray.empty, vNil, vNil]), (0, .box 32 [vI k, vB b, vI n, vS s, .sl ([]), .sl (encT (y :: ys))])], [], 7, 7⟩
  | 4 => ⟨[(3, .ptr 3 0), (1, .ptr 0 0), (2, .ptr 1 0), (6, .ptr 0 5), (9, .ptr 0 4)], [(3, .box 32 [vI k, vB b, vI n, vS s, .sl ([]), .sl (encT (y :: ys))]), (1, .box 32 [vI 0, vB false, vI 0, vS ByteArray.empty, vNil, vNil]), (0, .box 32 [vI k, vB b, vI n, vS s, .sl ([]), .sl (encT (y :: ys))])], [], 7, 7⟩
  | 5 => ⟨[(3, .ptr 3 0), (1, .ptr 0 0), (2, .ptr 1 0), (9, .ptr 0 4), (10, .sl ([]))], [(3, .box 32 [vI k, vB b, vI n, vS s, .sl ([]), .sl (encT (y :: ys))]), (1, .box 32 [vI 0, vB false, vI 0, vS ByteArray.empty, vNil, vNil]), (0, .box 32 [vI k, vB b, vI n, vS s, .sl ([]), .sl (encT (y :: ys))])], [], 7, 7⟩
  | 6 => ⟨[(3, .ptr 3 0), (1, .ptr 0 0), (2, .ptr 1 0), (6, .ptr 0 5), (7, .sl (encT (y :: ys))), (8, .ms d.1 0 (y :: ys).length d.2.1)], [(d.1, .box 9 (flatT (y :: ys) ++ d.2.2.1)), (3, .box 32 [vI k, vB b, vI n, vS s, .sl ([]), .sl (encT (y :: ys))]), (1, .box 32 [vI 0, vB false, vI 0, vS ByteArray.empty, vNil, vNil]), (0, .box 32 [vI k, vB b, vI n, vS s, .sl ([]), .sl (encT (y :: ys))])], [], 9, 8⟩
  | 7 => ⟨[(3, .ptr 3 0), (1, .ptr 0 0), (2, .ptr 1 0), (6, .ptr 0 5), (7, .sl (encT (y :: ys))), (9, .ptr 0 4)], [(3, .box 32 [vI k, vB b, vI n, vS s, .sl ([]), .sl (encT (y :: ys))]), (1, .box 32 [vI 0, vB false, vI 0, vS ByteArray.empty, vNil, vNil]), (0, .box 32 [vI k, vB b, vI n, vS s, .sl ([]), .sl (encT (y :: ys))])], [], 8, 8⟩
  | 8 => ⟨[(3, .ptr 3 0), (1, .ptr 0 0), (2, .ptr 1 0), (6, .ptr 0 5), (9, .ptr 0 4), (10, .sl ([]))], [(3, .box 32 [vI k, vB b, vI n, vS s, .sl ([]), .sl (encT (y :: ys))]), (1, .box 32 [vI 0, vB false, vI 0, vS ByteArray.empty, vNil, vNil]), (0, .box 32 [vI k, vB b, vI n, vS s, .sl ([]), .sl (encT (y :: ys))])], [], 8, 8⟩
  | 9 => ⟨[(3, .ptr 3 0), (1, .ptr 0 0), (2, .ptr 1 0), (6, .ptr 0 5), (7, .sl (encT (y :: ys))), (8, .ms d.1 0 (y :: ys).length d.2.1), (9, .ptr 0 4)], [(d.1, .box 9 (flatT (y :: ys) ++ d.2.2.1)), (3, .box 32 [vI k, vB b, vI n, vS s, .sl ([]), .sl (encT (y :: ys))]), (1, .box 32 [vI 0, vB false, vI 0, vS ByteArray.empty, vNil, vNil]), (0, .box 32 [vI k, vB b, vI n, vS s, .sl ([]), .sl (encT (y :: ys))])], [], 10, 9⟩
  | 10 => ⟨[(3, .ptr 3 0), (1, .ptr 0 0), (2, .ptr 1 0), (6, .ptr 0 5), (7, .sl (encT (y :: ys))), (8, .ms d.1 0 (y :: ys).length d.2.1), (12, .ptr 3 5)], [(d.1, .box 9 (flatT (y :: ys) ++ d.2.2.1)), (3, .box 32 [vI k, vB b, vI n, vS s, .sl ([]), .sl (encT (y :: ys))]), (1, .box 32 [vI 0, vB false, vI 0, vS ByteArray.empty, vNil, vNil]), (0, .box 32 [vI k, vB b, vI n, vS s, .sl ([]), .sl (encT (y :: ys))])], [], 10, 9⟩
  | 11 => ⟨[(3, .ptr 3 0), (1, .ptr 0 0), (2, .ptr 1 0), (6, .ptr 0 5), (7, .sl (encT (y :: ys))), (9, .ptr 0 4), (10, .sl ([]))], [(3, .box 32 [vI k, vB b, vI n, vS s, .sl ([]), .sl (encT (y :: ys))]), (1, .box 32 [vI 0, vB false, vI 0, vS ByteArray.empty, vNil, vNil]), (0, .box 32 [vI k, vB b, vI n, vS s, .sl ([]), .sl (encT (y :: ys))])], [], 9, 9⟩
  | 12 => ⟨[(3, .ptr 3 0), (1, .ptr 0 0), (2, .ptr 1 0), (6, .ptr 0 5), (7, .sl (encT (y :: ys))), (8, .ms d.1 0 (y :: ys).length d.2.1), (9, .ptr 0 4), (10, .sl ([]))], [(d.1, .box 9 (flatT (y :: ys) ++ d.2.2.1)), (3, .box 32 [vI k, vB b, vI n, vS s, .sl ([]), .sl (encT (y :: ys))]), (1, .box 32 [vI 0, vB false, vI 0, vS ByteArray.empty, vNil, vNil]), (0, .box 32 [vI k, vB b, vI n, vS s, .sl ([]), .sl (encT (y :: ys))])], [], 11, 10⟩
  | 13 => ⟨[(3, .ptr 3 0), (1, .ptr 0 0), (2, .ptr 1 0), (6, .ptr 0 5), (7, .sl (encT (y :: ys))), (8, .ms d.1 0 (y :: ys).length d.2.1), (9, .ptr 0 4), (12, .ptr 3 5)], [(d.1, .box 9 (flatT (y :: ys) ++ d.2.2.1)), (3, .box 32 [vI k, vB b, vI n, vS s, .sl ([]), .sl (encT (y :: ys))]), (1, .box 32 [vI 0, vB false, vI 0, vS ByteArray.empty, vNil, vNil]), (0, .box 32 [vI k, vB b, vI n, vS s, .sl ([]), .sl (encT (y :: ys))])], [], 11, 10⟩
  | 14 => ⟨[(3, .ptr 3 0), (1, .ptr 0 0), (2, .ptr 1 0), (6, .ptr 0 5), (7, .sl (encT (y :: ys))), (8, .ms d.1 0 (y :: ys).length d.2.1), (9, .ptr 0 4), (10, .sl ([])), (11, .sl [])], [(d.1, .box 9 (flatT (y :: ys) ++ d.2.2.1)), (3, .box 32 [vI k, vB b, vI n, vS s, .sl ([]), .sl (encT (y :: ys))]), (1, .box 32 [vI 0, vB false, vI 0, vS ByteArray.empty, vNil, vNil]), (0, .box 32 [vI k, vB b, vI n, vS s, .sl ([]), .sl (encT (y :: ys))])], [], 12, 11⟩
  | 15 => ⟨[(3, .ptr 3 0), (1, .ptr 0 0), (2, .ptr 1 0), (6, .ptr 0 5), (7, .sl (encT (y :: ys))), (8, .ms d.1 0 (y :: ys).length d.2.1), (9, .ptr 0 4), (10, .sl ([])), (12, .ptr 3 5)], [(d.1, .box 9 (flatT (y :: ys) ++ d.2.2.1)), (3, .box 32 [vI k, vB b, vI n, vS s, .sl ([]), .sl (encT (y :: ys))]), (1, .box 32 [vI 0, vB false, vI 0, vS ByteArray.empty, vNil, vNil]), (0, .box 32 [vI k, vB b, vI n, vS s, .sl ([]), .sl (encT (y :: ys))])], [], 12, 11⟩
  | 16 => ⟨[(3, .ptr 3 0), (1, .ptr 0 0), (2, .ptr 1 0), (6, .ptr 0 5), (7, .sl (encT (y :: ys))), (8, .ms d.1 0 (y :: ys).length d.2.1), (9, .ptr 0 4), (10, .sl ([])), (11, .sl []), (12, .ptr 3 5)], [(d.1, .box 9 (flatT (y :: ys) ++ d.2.2.1)), (3, .box 32 [vI k, vB b, vI n, vS s, .sl ([]), .sl (encT (y :: ys))]), (1, .box 32 [vI 0, vB false, vI 0, vS ByteArray.empty, vNil, vNil]), (0, .box 32 [vI k, vB b, vI n, vS s, .sl ([]), .sl (encT (y :: ys))])], [], 13, 12⟩
  | 17 => ⟨[(3, .ptr 3 0), (1, .ptr 0 0), (2, .ptr 1 0), (6, .ptr 0 5), (7, .sl (encT (y :: ys))), (8, .ms d.1 0 (y :: ys).length d.2.1), (9, .ptr 0 4), (10, .sl ([])), (11, .sl []), (12, .ptr 3 5)], [(d.1, .box 9 (flatT (y :: ys) ++ d.2.2.1)), (3, .box 32 [vI k, vB b, vI n, vS s, .sl ([]), .ms d.1 0 (y :: ys).length d.2.1]), (1, .box 32 [vI 0, vB false, vI 0, vS ByteArray.empty, vNil, vNil]), (0, .box 32 [vI k, vB b, vI n, vS s, .sl ([]), .sl (encT (y :: ys))])], [], 14, 13⟩
  | 18 => ⟨[(3, .ptr 3 0), (1, .ptr 0 0), (2, .ptr 1 0), (6, .ptr 0 5), (7, .sl (encT (y :: ys))), (8, .ms d.1 0 (y :: ys).length d.2.1), (9, .ptr 0 4), (10, .sl ([])), (11, .sl []), (12, .ptr 3 5), (13, .ptr 3 4)], [(d.1, .box 9 (flatT (y :: ys) ++ d.2.2.1)), (3, .box 32 [vI k, vB b, vI n, vS s, .sl ([]), .ms d.1 0 (y :: ys).length d.2.1]), (1, .box 32 [vI 0, vB false, vI 0, vS ByteArray.empty, vNil, vNil]), (0, .box 32 [vI k, vB b, vI n, vS s, .sl ([]), .sl (encT (y :: ys))])], [], 15, 14⟩
  | 19 => ⟨[(3, .ptr 3 0), (1, .ptr 0 0), (2, .ptr 1 0), (6, .ptr 0 5), (7, .sl (encT (y :: ys))), (8, .ms d.1 0 (y :: ys).length d.2.1), (9, .ptr 0 4), (10, .sl ([])), (11, .sl []), (12, .ptr 3 5), (13, .ptr 3 4)], [(d.1, .box 9 (flatT (y :: ys) ++ d.2.2.1)), (3, .box 32 [vI k, vB b, vI n, vS s, .sl [], .ms d.1 0 (y :: ys).length d.2.1]), (1, .box 32 [vI 0, vB false, vI 0, vS ByteArray.empty, vNil, vNil]), (0, .box 32 [vI k, vB b, vI n, vS s, .sl ([]), .sl (encT (y :: ys))])], [], 16, 15⟩
  | _ => ⟨[(3, .ptr 3 0), (1, .ptr 0 0), (2, .ptr 1 0), (6, .ptr 0 5), (7, .sl (encT (y :: ys))), (8, .ms d.1 0 (y :: ys).length d.2.1), (9, .ptr 0 4), (10, .sl ([])), (11, .sl []), (12, .ptr 3 5), (13, .ptr 3 4)], [(d.1, .box 9 (flatT (y :: ys) ++ d.2.2.1)), (3, .box 32 [vI k, vB b, vI n, vS s, .sl [], .ms d.1 0 (y :: ys).length d.2.1]), (1, .box 32 [vI 0, vB false, vI 0, vS ByteArray.empty, vNil, vNil]), (0, .box 32 [vI k, vB b, vI n, vS s, .sl ([]), .sl (encT (y :: ys))])], [], 16, 15⟩
def c01_P (x : V) (xs : List V) (y : ByteArray) (ys : List ByteArray) : Nat → Nat × Nat × List PV × Nat × Nat × List PV → Prop := fun i d => match i with
  | 0 => True
  | 1 => True
  | 2 => True
  | 3 => True
  | 4 => True
  | 5 => True
  | 6 => (5 ≤ d.1 ∧ d.1 < 9 ∧ (y :: ys).length ≤ d.2.1 ∧ d.2.1 ≤ maxLen ∧ d.2.2.1.length = d.2.1 - (y :: ys).length ∧ ∀ a b, PV.ltL a b d.2.2.1 = true)
  | 7 => True
  | 8 => True
  | 9 => (5 ≤ d.1 ∧ d.1 < 10 ∧ (y :: ys).length ≤ d.2.1 ∧ d.2.1 ≤ maxLen ∧ d.2.2.1.length = d.2.1 - (y :: ys).length ∧ ∀ a b, PV.ltL a b d.2.2.1 = true)
  | 10 => (5 ≤ d.1 ∧ d.1 < 10 ∧ (y :: ys).length ≤ d.2.1 ∧ d.2.1 ≤ maxLen ∧ d.2.2.1.length = d.2.1 - (y :: ys).length ∧ ∀ a b, PV.ltL a b d.2.2.1 = true)
  | 11 => True
  | 12 => (5 ≤ d.1 ∧ d.1 < 11 ∧ (y :: ys).length ≤ d.2.1 ∧ d.2.1 ≤ maxLen ∧ d.2.2.1.length = d.2.1 - (y :: ys).length ∧ ∀ a b, PV.ltL a b d.2.2.1 = true)
  | 13 => (5 ≤ d.1 ∧ d.1 < 11 ∧ (y :: ys).length ≤ d.2.1 ∧ d.2.1 ≤ maxLen ∧ d.2.2.1.length = d.2.1 - (y :: ys).length ∧ ∀ a b, PV.ltL a b d.2.2.1 = true)
  | 14 => (5 ≤ d.1 ∧ d.1 < 12 ∧ (y :: ys).length ≤ d.2.1 ∧ d.2.1 ≤ maxLen ∧ d.2.2.1.length = d.2.1 - (y :: ys).length ∧ ∀ a b, PV.ltL a b d.2.2.1 = true)
  | 15 => (5 ≤ d.1 ∧ d.1 < 12 ∧ (y :: ys).length ≤ d.2.1 ∧ d.2.1 ≤ maxLen ∧ d.2.2.1.length = d.2.1 - (y :: ys).length ∧ ∀ a b, PV.ltL a b d.2.2.1 = true)
  | 16 => (5 ≤ d.1 ∧ d.1 < 13 ∧ (y :: ys).length ≤ d.2.1 ∧ d.2.1 ≤ maxLen ∧ d.2.2.1.length = d.2.1 - (y :: ys).length ∧ ∀ a b, PV.ltL a b d.2.2.1 = true)
  | 17 => (5 ≤ d.1 ∧ d.1 < 14 ∧ (y :: ys).length ≤ d.2.1 ∧ d.2.1 ≤ maxLen ∧ d.2.2.1.length = d.2.1 - (y :: ys).length ∧ ∀ a b, PV.ltL a b d.2.2.1 = true)
  | 18 => (5 ≤ d.1 ∧ d.1 < 15 ∧ (y :: ys).length ≤ d.2.1 ∧ d.2.1 ≤ maxLen ∧ d.2.2.1.length = d.2.1 - (y :: ys).length ∧ ∀ a b, PV.ltL a b d.2.2.1 = true)
  | 19 => (5 ≤ d.1 ∧ d.1 < 16 ∧ (y :: ys).length ≤ d.2.1 ∧ d.2.1 ≤ maxLen ∧ d.2.2.1.length = d.2.1 - (y :: ys).length ∧ ∀ a b, PV.ltL a b d.2.2.1 = true)
  | _ => True
def tab_c01 : List Row := [⟨#[false, false, false, false, false, false, false, false, false, false], [0, 3], 10⟩, ⟨#[true, false, false, false, false, false, false, false, false, false], [1, 3], 9⟩, ⟨#[false, false, false, true, false, false, false, false, false, false], [0, 4], 9⟩, ⟨#[true, true, false, false, false, false, false, false, false, false], [2, 3], 8⟩, ⟨#[true, false, false, true, false, false, false, false, false, false], [1, 4], 8⟩, ⟨#[false, false, false, true, true, false, false, false, false, false], [0], 8⟩, ⟨#[true, true, true, false, false, false, false, false, false, false], [3, 6], 7⟩, ⟨#[true, true, false, true, false, false, false, false, false, false], [2, 4], 7⟩, ⟨#[true, false, false, true, true, false, false, false, false, false], [1], 7⟩, ⟨#[true, true, true, true, false, false, false, false, false, false], [4, 6], 6⟩, ⟨#[true, true, true, false, false, false, true, false, false, false], [3], 6⟩, ⟨#[true, true, false, true, true, false, false, false, false, false], [2], 6⟩, ⟨#[true, true, true, true, true, false, false, false, false, false], [5, 6], 5⟩, ⟨#[true, true, true, true, false, false, true, false, false, false], [4], 5⟩, ⟨#[true, true, true, true, true, true, false, false, false, false], [6], 4⟩, ⟨#[true, true, true, true, true, false, true, false, false, false], [5], 4⟩, ⟨#[true, true, true, true, true, true, true, false, false, false], [7], 3⟩, ⟨#[true, true, true, true, true, true, true, true, false, false], [8], 2⟩, ⟨#[true, true, true, true, true, true, true, true, true, false], [9], 1⟩, ⟨#[true, true, true, true, true, true, true, true, true, true], [], 0⟩]
set_option maxHeartbeats 16000000 in
theorem c01_H (k : Int) (b : Bool) (n : Int) (s : ByteArray) (x : V) (xs : List V) (y : ByteArray) (ys : List ByteArray) (hsub : ∀ u ∈ [], Ok Tryd.prog 38 [.agg (cellsV u)] (.agg (cellsV u))) (hl : (x :: xs).length ≤ 1000000) (hl2 : (y :: ys).length ≤ 1000000) : OkH Tryd.prog 38 [.agg (cellsV (.mk k b n s [] (y :: ys)))] (CopyQ (.mk k b n s [] (y :: ys))) := by
  refine OkH.of_pwp (by kernel_rfl) Tryd.func38 rfl (by kernel_rfl) (by kernel_rfl) (bar := oneBar 2 10) ?_
  simp only [List.length_cons] at hl hl2
  have hmax : (1000000 : Nat) ≤ maxLen := by unfold maxLen; decide
  simp (implicitDefEqProofs := false) (disch := omega) only [go_sem, simprocAttr, go_sem, Nat.le_refl, encV_nil, encT_nil, Tryd.results38]
  refine p_table (by decide) tab_c01 (by kernel_rfl) (Nat × Nat × List PV × Nat × Nat × List PV) (c01_I k b n s x xs y ys) (c01_P x xs y ys) (0, 0, [], 0, 0, []) (by kernel_rfl) trivial ?_ ?_
  · simp only [c01_I]
    refine ⟨?_, ?_, ?_, ?_, ?_, ?_, ?_⟩ <;> simp only [go_sem, simprocAttr, decide_eq_true_eq, encV_nil, encT_nil] <;> try first | omega | ((repeat' (first | exact And.intro rfl (by omega) | (refine And.intro ?_ ?_))) <;> first | rfl | omega | (congr 3; omega) | (congr 2; omega))
  simp only [tab_c01, allI]
  refine ⟨?_, ?_, ?_, ?_, ?_, ?_, ?_, ?_, ?_, ?_, ?_, ?_, ?_, ?_, ?_, ?_, ?_, ?_, ?_, ?_, trivial⟩
  · -- 0: []
    rintro ⟨iK, cK, rK, iI, cI, rI⟩ hd
    simp only [c01_P, c01_I] at hd ⊢
    refine ⟨fun h => (by cases h), ?_⟩
    simp only [allL, and_true]
    refine ⟨?_, ?_⟩
    · simp (implicitDefEqProofs := false) (disch := omega) only [go_sem, simprocAttr, go_sem, Nat.le_refl, encV_nil, encT_nil, Tryd.results38]
      refine ⟨1, (iK, cK, rK, iI, cI, rI), by kernel_rfl, trivial, ?_⟩
      simp only [c01_I]
      refine ⟨?_, by simp (disch := omega) only [tok_T, tok_F, toks_T, toks_F, ob_T, ob_F, obs_T, obs_F, Bool.true_and, Bool.and_eq_true, go_sem, simprocAttr, decide_eq_true_eq, flatT_flatten, flatV_flatten, ltL_app, ltL_flatT, ltL_flatV] <;> try first | omega | ((repeat' (first | exact And.intro rfl (by omega) | (refine And.intro ?_ ?_))) <;> first | rfl | omega | (congr 3; omega) | (congr 2; omega)), ?_, ?_, ?_, ?_, ?_⟩ <;> simp only [go_sem, simprocAttr, decide_eq_true_eq, flatT_flatten, flatV_flatten, ltL_app, ltL_flatT, ltL_flatV] <;> try first | omega | ((repeat' (first | exact And.intro rfl (by omega) | (refine And.intro ?_ ?_))) <;> first | rfl | omega | (congr 3; omega) | (congr 2; omega))
    · simp (implicitDefEqProofs := false) (disch := omega) only [go_sem, simprocAttr, go_sem, Nat.le_refl, encV_nil, encT_nil, Tryd.results38]
      refine ⟨2, (iK, cK, rK, iI, cI, rI), by kernel_rfl, trivial, ?_⟩
      simp only [c01_I]
      refine ⟨?_, by simp (disch := omega) only [tok_T, tok_F, toks_T, toks_F, ob_T, ob_F, obs_T, obs_F, Bool.true_and, Bool.and_eq_true, go_sem, simprocAttr, decide_eq_true_eq, flatT_flatten, flatV_flatten, ltL_app, ltL_flatT, ltL_flatV] <;> try first | omega | ((repeat' (first | exact And.intro rfl (by omega) | (refine And.intro ?_ ?_))) <;> first | rfl | omega | (congr 3; omega) | (congr 2; omega)), ?_, ?_, ?_, ?_, ?_⟩ <;> simp only [go_sem, simprocAttr, decide_eq_true_eq, flatT_flatten, flatV_flatten, ltL_app, ltL_flatT, ltL_flatV] <;> try first | omega | ((repeat' (first | exact And.intro rfl (by omega) | (refine And.intro ?_ ?_))) <;> first | rfl | omega | (congr 3; omega) | (congr 2; omega))
  · -- 1: [0]
    rintro ⟨iK, cK, rK, iI, cI, rI⟩ hd
    simp only [c01_P, c01_I] at hd ⊢
    refine ⟨fun h => (by cases h), ?_⟩
    simp only [allL, and_true]
    refine ⟨?_, ?_⟩
    · simp (implicitDefEqProofs := false) (disch := omega) only [go_sem, simprocAttr, go_sem, Nat.le_refl, encV_nil, encT_nil, Tryd.results38]
      refine ⟨3, (iK, cK, rK, iI, cI, rI), by kernel_rfl, trivial, ?_⟩
      simp only [c01_I]
      refine ⟨?_, by simp (disch := omega) only [tok_T, tok_F, toks_T, toks_F, ob_T, ob_F, obs_T, obs_F, Bool.true_and, Bool.and_eq_true, go_sem, simprocAttr, decide_eq_true_eq, flatT_flatten, flatV_flatten, ltL_app, ltL_flatT, ltL_flatV] <;> try first | omega | ((repeat' (first | exact And.intro rfl (by omega) | (refine And.intro ?_ ?_))) <;> first | rfl | omega | (congr 3; omega) | (congr 2; omega)), ?_, ?_, ?_, ?_, ?_⟩ <;> simp only [go_sem, simprocAttr, decide_eq_true_eq, flatT_flatten, flatV_flatten, ltL_app, ltL_flatT, ltL_flatV] <;> try first | omega | ((repeat' (first | exact And.intro rfl (by omega) | (refine And.intro ?_ ?_))) <;> first | rfl | omega | (congr 3; omega) | (congr 2; omega))
    · simp (implicitDefEqProofs := false) (disch := omega) only [go_sem, simprocAttr, go_sem, Nat.le_refl, encV_nil, encT_nil, Tryd.results38]
      refine ⟨4, (iK, cK, rK, iI, cI, rI), by kernel_rfl, trivial, ?_⟩
      simp only [c01_I]
      refine ⟨?_, by simp (disch := omega) only [tok_T, tok_F, toks_T, toks_F, ob_T, ob_F, obs_T, obs_F, Bool.true_and, Bool.and_eq_true, go_sem, simprocAttr, decide_eq_true_eq, flatT_flatten, flatV_flatten, ltL_app, ltL_flatT, ltL_flatV] <;> try first | omega | ((repeat' (first | exact And.intro rfl (by omega) | (refine And.intro ?_ ?_))) <;> first | rfl | omega | (congr 3; omega) | (congr 2; omega)), ?_, ?_, ?_, ?_, ?_⟩ <;> simp only [go_sem, simprocAttr, decide_eq_true_eq, flatT_flatten, flatV_flatten, ltL_app, ltL_flatT, ltL_flatV] <;> try first | omega | ((repeat' (first | exact And.intro rfl (by omega) | (refine And.intro ?_ ?_))) <;> first | rfl | omega | (congr 3; omega) | (congr 2; omega))
  · -- 2: [3]
    rintro ⟨iK, cK, rK, iI, cI, rI⟩ hd
    simp only [c01_P, c01_I] at hd ⊢
    refine ⟨fun h => (by cases h), ?_⟩
    simp only [allL, and_true]
    refine ⟨?_, ?_⟩
    · simp (implicitDefEqProofs := false) (disch := omega) only [go_sem, simprocAttr, go_sem, Nat.le_refl, encV_nil, encT_nil, Tryd.results38]
      refine ⟨4, (iK, cK, rK, iI, cI, rI), by kernel_rfl, trivial, ?_⟩
      simp only [c01_I]
      refine ⟨?_, by simp (disch := omega) only [tok_T, tok_F, toks_T, toks_F, ob_T, ob_F, obs_T, obs_F, Bool.true_and, Bool.and_eq_true, go_sem, simprocAttr, decide_eq_true_eq, flatT_flatten, flatV_flatten, ltL_app, ltL_flatT, ltL_flatV] <;> try first | omega | ((repeat' (first | exact And.intro rfl (by omega) | (refine And.intro ?_ ?_))) <;> first | rfl | omega | (congr 3; omega) | (congr 2; omega)), ?_, ?_, ?_, ?_, ?_⟩ <;> simp only [go_sem, simprocAttr, decide_eq_true_eq, flatT_flatten, flatV_flatten, ltL_app, ltL_flatT, ltL_flatV] <;> try first | omega | ((repeat' (first | exact And.intro rfl (by omega) | (refine And.intro ?_ ?_))) <;> first | rfl | omega | (congr 3; omega) | (congr 2; omega))
    · simp (implicitDefEqProofs := false) (disch := omega) only [go_sem, simprocAttr, go_sem, Nat.le_refl, encV_nil, encT_nil, Tryd.results38]
      refine ⟨5, (iK, cK, rK, iI, cI, rI), by kernel_rfl, trivial, ?_⟩
      simp only [c01_I]
      refine ⟨?_, by simp (disch := omega) only [tok_T, tok_F, toks_T, toks_F, ob_T, ob_F, obs_T, obs_F, Bool.true_and, Bool.and_eq_true, go_sem, simprocAttr, decide_eq_true_eq, flatT_flatten, flatV_flatten, ltL_app, ltL_flatT, ltL_flatV] <;> try first | omega | ((repeat' (first | exact And.intro rfl (by omega) | (refine And.intro ?_ ?_))) <;> first | rfl | omega | (congr 3; omega) | (congr 2; omega)), ?_, ?_, ?_, ?_, ?_⟩ <;> simp only [go_sem, simprocAttr, decide_eq_true_eq, flatT_flatten, flatV_flatten, ltL_app, ltL_flatT, ltL_flatV] <;> try first | omega | ((repeat' (first | exact And.intro rfl (by omega) | (refine And.intro ?_ ?_))) <;> first | rfl | omega | (congr 3; omega) | (congr 2; omega))
  · -- 3: [0, 1]
    rintro ⟨iK, cK, rK, iI, cI, rI⟩ hd
    simp only [c01_P, c01_I] at hd ⊢
    refine ⟨fun h => (by cases h), ?_⟩
    simp only [allL, and_true]
    refine ⟨?_, ?_⟩
    · simp (implicitDefEqProofs := false) (disch := omega) only [go_sem, simprocAttr, go_sem, Nat.le_refl, encV_nil, encT_nil, Tryd.results38]
      refine CallOk.ofI (OkI.clone (st := ⟨[], _, _, _, _⟩) (by kernel_rfl) clS_rd rfl one_S (by decide) (encT (y :: ys)) (encT_all1 _) (by rw [encT_len]; simp) (by rw [encT_len]; simp only [List.length_cons]; omega)) rfl rfl rfl rfl ?_
      rintro r st1 ⟨cK, rK, q1, q2, q3, q4, rfl, rfl⟩
      rw [encT_len] at q1 q3
      simp (implicitDefEqProofs := false) (disch := omega) only [go_sem, simprocAttr, go_sem, Nat.le_refl, encV_nil, encT_nil, Tryd.results38]
      refine ⟨6, (7, cK, rK, iI, cI, rI), by kernel_rfl, ⟨by simp only; omega, by simp only; omega, q1, q2, by simpa using q3, q4⟩, ?_⟩
      simp only [c01_I]
      refine ⟨?_, by simp (disch := omega) only [tok_T, tok_F, toks_T, toks_F, ob_T, ob_F, obs_T, obs_F, Bool.true_and, Bool.and_eq_true, go_sem, simprocAttr, decide_eq_true_eq, flatT_flatten, flatV_flatten, q4, ltL_app, ltL_flatT, ltL_flatV] <;> try first | omega | ((repeat' (first | exact And.intro rfl (by omega) | (refine And.intro ?_ ?_))) <;> first | rfl | omega | (congr 3; omega) | (congr 2; omega)), ?_, ?_, ?_, ?_, ?_⟩ <;> simp only [go_sem, simprocAttr, decide_eq_true_eq, flatT_flatten, flatV_flatten, q4, ltL_app, ltL_flatT, ltL_flatV] <;> try first | omega | ((repeat' (first | exact And.intro rfl (by omega) | (refine And.intro ?_ ?_))) <;> first | rfl | omega | (congr 3; omega) | (congr 2; omega))
    · simp (implicitDefEqProofs := false) (disch := omega) only [go_sem, simprocAttr, go_sem, Nat.le_refl, encV_nil, encT_nil, Tryd.results38]
      refine ⟨7, (iK, cK, rK, iI, cI, rI), by kernel_rfl, trivial, ?_⟩
      simp only [c01_I]
      refine ⟨?_, by simp (disch := omega) only [tok_T, tok_F, toks_T, toks_F, ob_T, ob_F, obs_T, obs_F, Bool.true_and, Bool.and_eq_true, go_sem, simprocAttr, decide_eq_true_eq, flatT_flatten, flatV_flatten, ltL_app, ltL_flatT, ltL_flatV] <;> try first | omega | ((repeat' (first | exact And.intro rfl (by omega) | (refine And.intro ?_ ?_))) <;> first | rfl | omega | (congr 3; omega) | (congr 2; omega)), ?_, ?_, ?_, ?_, ?_⟩ <;> simp only [go_sem, simprocAttr, decide_eq_true_eq, flatT_flatten, flatV_flatten, ltL_app, ltL_flatT, ltL_flatV] <;> try first | omega | ((repeat' (first | exact And.intro rfl (by omega) | (refine And.intro ?_ ?_))) <;> first | rfl | omega | (congr 3; omega) | (congr 2; omega))
  · -- 4: [0, 3]
    rintro ⟨iK, cK, rK, iI, cI, rI⟩ hd
    simp only [c01_P, c01_I] at hd ⊢
    refine ⟨fun h => (by cases h), ?_⟩
    simp only [allL, and_true]
    refine ⟨?_, ?_⟩
    · simp (implicitDefEqProofs := false) (disch := omega) only [go_sem, simprocAttr, go_sem, Nat.le_refl, encV_nil, encT_nil, Tryd.results38]
      refine ⟨7, (iK, cK, rK, iI, cI, rI), by kernel_rfl, trivial, ?_⟩
      simp only [c01_I]
      refine ⟨?_, by simp (disch := omega) only [tok_T, tok_F, toks_T, toks_F, ob_T, ob_F, obs_T, obs_F, Bool.true_and, Bool.and_eq_true, go_sem, simprocAttr, decide_eq_true_eq, flatT_flatten, flatV_flatten, ltL_app, ltL_flatT, ltL_flatV] <;> try first | omega | ((repeat' (first | exact And.intro rfl (by omega) | (refine And.intro ?_ ?_))) <;> first | rfl | omega | (congr 3; omega) | (congr 2; omega)), ?_, ?_, ?_, ?_, ?_⟩ <;> simp only [go_sem, simprocAttr, decide_eq_true_eq, flatT_flatten, flatV_flatten, ltL_app, ltL_flatT, ltL_flatV] <;> try first | omega | ((repeat' (first | exact And.intro rfl (by omega) | (refine And.intro ?_ ?_))) <;> first | rfl | omega | (congr 3; omega) | (congr 2; omega))
    · simp (implicitDefEqProofs := false) (disch := omega) only [go_sem, simprocAttr, go_sem, Nat.le_refl, encV_nil, encT_nil, Tryd.results38]
      refine ⟨8, (iK, cK, rK, iI, cI, rI), by kernel_rfl, trivial, ?_⟩
      simp only [c01_I]
      refine ⟨?_, by simp (disch := omega) only [tok_T, tok_F, toks_T, toks_F, ob_T, ob_F, obs_T, obs_F, Bool.true_and, Bool.and_eq_true, go_sem, simprocAttr, decide_eq_true_eq, flatT_flatten, flatV_flatten, ltL_app, ltL_flatT, ltL_flatV] <;> try first | omega | ((repeat' (first | exact And.intro rfl (by omega) | (refine And.intro ?_ ?_))) <;> first | rfl | omega | (congr 3; omega) | (congr 2; omega)), ?_, ?_, ?_, ?_, ?_⟩ <;> simp only [go_sem, simprocAttr, decide_eq_true_eq, flatT_flatten, flatV_flatten, ltL_app, ltL_flatT, ltL_flatV] <;> try first | omega | ((repeat' (first | exact And.intro rfl (by omega) | (refine And.intro ?_ ?_))) <;> first | rfl | omega | (congr 3; omega) | (congr 2; omega))
  · -- 5: [3, 4]
    rintro ⟨iK, cK, rK, iI, cI, rI⟩ hd
    simp only [c01_P, c01_I] at hd ⊢
    refine ⟨fun h => (by cases h), ?_⟩
    simp only [allL, and_true]
    simp (implicitDefEqProofs := false) (disch := omega) only [go_sem, simprocAttr, go_sem, Nat.le_refl, encV_nil, encT_nil, Tryd.results38]
    refine ⟨8, (iK, cK, rK, iI, cI, rI), by kernel_rfl, trivial, ?_⟩
    simp only [c01_I]
    refine ⟨?_, by simp (disch := omega) only [tok_T, tok_F, toks_T, toks_F, ob_T, ob_F, obs_T, obs_F, Bool.true_and, Bool.and_eq_true, go_sem, simprocAttr, decide_eq_true_eq, flatT_flatten, flatV_flatten, ltL_app, ltL_flatT, ltL_flatV] <;> try first | omega | ((repeat' (first | exact And.intro rfl (by omega) | (refine And.intro ?_ ?_))) <;> first | rfl | omega | (congr 3; omega) | (congr 2; omega)), ?_, ?_, ?_, ?_, ?_⟩ <;> simp only [go_sem, simprocAttr, decide_eq_true_eq, flatT_flatten, flatV_flatten, ltL_app, ltL_flatT, ltL_flatV] <;> try first | omega | ((repeat' (first | exact And.intro rfl (by omega) | (refine And.intro ?_ ?_))) <;> first | rfl | omega | (congr 3; omega) | (congr 2; omega))
  · -- 6: [0, 1, 2]
    rintro ⟨iK, cK, rK, iI, cI, rI⟩ hd
    simp only [c01_P, c01_I] at hd ⊢
    obtain ⟨k1, k2, k3, k4, k5, k6⟩ := hd
    refine ⟨fun h => (by cases h), ?_⟩
    simp only [allL, and_true]
    refine ⟨?_, ?_⟩
    · simp (implicitDefEqProofs := false) (disch := omega) only [go_sem, simprocAttr, go_sem, Nat.le_refl, encV_nil, encT_nil, Tryd.results38]
      refine ⟨9, (iK, cK, rK, iI, cI, rI), by kernel_rfl, ⟨k1, by simp only; omega, k3, k4, k5, k6⟩, ?_⟩
      simp only [c01_I]
      refine ⟨?_, by simp (disch := omega) only [tok_T, tok_F, toks_T, toks_F, ob_T, ob_F, obs_T, obs_F, Bool.true_and, Bool.and_eq_true, go_sem, simprocAttr, decide_eq_true_eq, flatT_flatten, flatV_flatten, k6, ltL_app, ltL_flatT, ltL_flatV] <;> try first | omega | ((repeat' (first | exact And.intro rfl (by omega) | (refine And.intro ?_ ?_))) <;> first | rfl | omega | (congr 3; omega) | (congr 2; omega)), ?_, ?_, ?_, ?_, ?_⟩ <;> simp only [go_sem, simprocAttr, decide_eq_true_eq, flatT_flatten, flatV_flatten, k6, ltL_app, ltL_flatT, ltL_flatV] <;> try first | omega | ((repeat' (first | exact And.intro rfl (by omega) | (refine And.intro ?_ ?_))) <;> first | rfl | omega | (congr 3; omega) | (congr 2; omega))
    · simp (implicitDefEqProofs := false) (disch := omega) only [go_sem, simprocAttr, go_sem, Nat.le_refl, encV_nil, encT_nil, Tryd.results38]
      refine ⟨10, (iK, cK, rK, iI, cI, rI), by kernel_rfl, ⟨k1, by simp only; omega, k3, k4, k5, k6⟩, ?_⟩
      simp only [c01_I]
      refine ⟨?_, by simp (disch := omega) only [tok_T, tok_F, toks_T, toks_F, ob_T, ob_F, obs_T, obs_F, Bool.true_and, Bool.and_eq_true, go_sem, simprocAttr, decide_eq_true_eq, flatT_flatten, flatV_flatten, k6, ltL_app, ltL_flatT, ltL_flatV] <;> try first | omega | ((repeat' (first | exact And.intro rfl (by omega) | (refine And.intro ?_ ?_))) <;> first | rfl | omega | (congr 3; omega) | (congr 2; omega)), ?_, ?_, ?_, ?_, ?_⟩ <;> simp only [go_sem, simprocAttr, decide_eq_true_eq, flatT_flatten, flatV_flatten, k6, ltL_app, ltL_flatT, ltL_flatV] <;> try first | omega | ((repeat' (first | exact And.intro rfl (by omega) | (refine And.intro ?_ ?_))) <;> first | rfl | omega | (congr 3; omega) | (congr 2; omega))
  · -- 7: [0, 1, 3]
    rintro ⟨iK, cK, rK, iI, cI, rI⟩ hd
    simp only [c01_P, c01_I] at hd ⊢
    refine ⟨fun h => (by cases h), ?_⟩
    simp only [allL, and_true]
    refine ⟨?_, ?_⟩
    · simp (implicitDefEqProofs := false) (disch := omega) only [go_sem, simprocAttr, go_sem, Nat.le_refl, encV_nil, encT_nil, Tryd.results38]
      refine CallOk.ofI (OkI.clone (st := ⟨[], _, _, _, _⟩) (by kernel_rfl) clS_rd rfl one_S (by decide) (encT (y :: ys)) (encT_all1 _) (by rw [encT_len]; simp) (by rw [encT_len]; simp only [List.length_cons]; omega)) rfl rfl rfl rfl ?_
      rintro r st1 ⟨cK, rK, q1, q2, q3, q4, rfl, rfl⟩
      rw [encT_len] at q1 q3
      simp (implicitDefEqProofs := false) (disch := omega) only [go_sem, simprocAttr, go_sem, Nat.le_refl, encV_nil, encT_nil, Tryd.results38]
      refine ⟨9, (8, cK, rK, iI, cI, rI), by kernel_rfl, ⟨by simp only; omega, by simp only; omega, q1, q2, by simpa using q3, q4⟩, ?_⟩
      simp only [c01_I]
      refine ⟨?_, by simp (disch := omega) only [tok_T, tok_F, toks_T, toks_F, ob_T, ob_F, obs_T, obs_F, Bool.true_and, Bool.and_eq_true, go_sem, simprocAttr, decide_eq_true_eq, flatT_flatten, flatV_flatten, q4, ltL_app, ltL_flatT, ltL_flatV] <;> try first | omega | ((repeat' (first | exact And.intro rfl (by omega) | (refine And.intro ?_ ?_))) <;> first | rfl | omega | (congr 3; omega) | (congr 2; omega)), ?_, ?_, ?_, ?_, ?_⟩ <;> simp only [go_sem, simprocAttr, decide_eq_true_eq, flatT_flatten, flatV_flatten, q4, ltL_app, ltL_flatT, ltL_flatV] <;> try first | omega | ((repeat' (first | exact And.intro rfl (by omega) | (refine And.intro ?_ ?_))) <;> first | rfl | omega | (congr 3; omega) | (congr 2; omega))
    · simp (implicitDefEqProofs := false) (disch := omega) only [go_sem, simprocAttr, go_sem, Nat.le_refl, encV_nil, encT_nil, Tryd.results38]
      refine ⟨11, (iK, cK, rK, iI, cI, rI), by kernel_rfl, trivial, ?_⟩
      simp only [c01_I]
      refine ⟨?_, by simp (disch := omega) only [tok_T, tok_F, toks_T, toks_F, ob_T, ob_F, obs_T, obs_F, Bool.true_and, Bool.and_eq_true, go_sem, simprocAttr, decide_eq_true_eq, flatT_flatten, flatV_flatten, ltL_app, ltL_flatT, ltL_flatV] <;> try first | omega | ((repeat' (first | exact And.intro rfl (by omega) | (refine And.intro ?_ ?_))) <;> first | rfl | omega | (congr 3; omega) | (congr 2; omega)), ?_, ?_, ?_, ?_, ?_⟩ <;> simp only [go_sem, simprocAttr, decide_eq_true_eq, flatT_flatten, flatV_flatten, ltL_app, ltL_flatT, ltL_flatV] <;> try first | omega | ((repeat' (first | exact And.intro rfl (by omega) | (refine And.intro ?_ ?_))) <;> first | rfl | omega | (congr 3; omega) | (congr 2; omega))
  · -- 8: [0, 3, 4]
    rintro ⟨iK, cK, rK, iI, cI, rI⟩ hd
    simp only [c01_P, c01_I] at hd ⊢
    refine ⟨fun h => (by cases h), ?_⟩
    simp only [allL, and_true]
    simp (implicitDefEqProofs := false) (disch := omega) only [go_sem, simprocAttr, go_sem, Nat.le_refl, encV_nil, encT_nil, Tryd.results38]
    refine ⟨11, (iK, cK, rK, iI, cI, rI), by kernel_rfl, trivial, ?_⟩
    simp only [c01_I]
    refine ⟨?_, by simp (disch := omega) only [tok_T, tok_F, toks_T, toks_F, ob_T, ob_F, obs_T, obs_F, Bool.true_and, Bool.and_eq_true, go_sem, simprocAttr, decide_eq_true_eq, flatT_flatten, flatV_flatten, ltL_app, ltL_flatT, ltL_flatV] <;> try first | omega | ((repeat' (first | exact And.intro rfl (by omega) | (refine And.intro ?_ ?_))) <;> first | rfl | omega | (congr 3; omega) | (congr 2; omega)), ?_, ?_, ?_, ?_, ?_⟩ <;> simp only [go_sem, simprocAttr, decide_eq_true_eq, flatT_flatten, flatV_flatten, ltL_app, ltL_flatT, ltL_flatV] <;> try first | omega | ((repeat' (first | exact And.intro rfl (by omega) | (refine And.intro ?_ ?_))) <;> first | rfl | omega | (congr 3; omega) | (congr 2; omega))
  · -- 9: [0, 1, 2, 3]
    rintro ⟨iK, cK, rK, iI, cI, rI⟩ hd
    simp only [c01_P, c01_I] at hd ⊢
    obtain ⟨k1, k2, k3, k4, k5, k6⟩ := hd
    refine ⟨fun h => (by cases h), ?_⟩
    simp only [allL, and_true]
    refine ⟨?_, ?_⟩
    · simp (implicitDefEqProofs := false) (disch := omega) only [go_sem, simprocAttr, go_sem, Nat.le_refl, encV_nil, encT_nil, Tryd.results38]
      refine ⟨12, (iK, cK, rK, iI, cI, rI), by kernel_rfl, ⟨k1, by simp only; omega, k3, k4, k5, k6⟩, ?_⟩
      simp only [c01_I]
      refine ⟨?_, by simp (disch := omega) only [tok_T, tok_F, toks_T, toks_F, ob_T, ob_F, obs_T, obs_F, Bool.true_and, Bool.and_eq_true, go_sem, simprocAttr, decide_eq_true_eq, flatT_flatten, flatV_flatten, k6, ltL_app, ltL_flatT, ltL_flatV] <;> try first | omega | ((repeat' (first | exact And.intro rfl (by omega) | (refine And.intro ?_ ?_))) <;> first | rfl | omega | (congr 3; omega) | (congr 2; omega)), ?_, ?_, ?_, ?_, ?_⟩ <;> simp only [go_sem, simprocAttr, decide_eq_true_eq, flatT_flatten, flatV_flatten, k6, ltL_app, ltL_flatT, ltL_flatV] <;> try first | omega | ((repeat' (first | exact And.intro rfl (by omega) | (refine And.intro ?_ ?_))) <;> first | rfl | omega | (congr 3; omega) | (congr 2; omega))
    · simp (implicitDefEqProofs := false) (disch := omega) only [go_sem, simprocAttr, go_sem, Nat.le_refl, encV_nil, encT_nil, Tryd.results38]
      refine ⟨13, (iK, cK, rK, iI, cI, rI), by kernel_rfl, ⟨k1, by simp only; omega, k3, k4, k5, k6⟩, ?_⟩
      simp only [c01_I]
      refine ⟨?_, by simp (disch := omega) only [tok_T, tok_F, toks_T, toks_F, ob_T, ob_F, obs_T, obs_F, Bool.true_and, Bool.and_eq_true, go_sem, simprocAttr, decide_eq_true_eq, flatT_flatten, flatV_flatten, k6, ltL_app, ltL_flatT, ltL_flatV] <;> try first | omega | ((repeat' (first | exact And.intro rfl (by omega) | (refine And.intro ?_ ?_))) <;> first | rfl | omega | (congr 3; omega) | (congr 2; omega)), ?_, ?_, ?_, ?_, ?_⟩ <;> simp only [go_sem, simprocAttr, decide_eq_true_eq, flatT_flatten, flatV_flatten, k6, ltL_app, ltL_flatT, ltL_flatV] <;> try first | omega | ((repeat' (first | exact And.intro rfl (by omega) | (refine And.intro ?_ ?_))) <;> first | rfl | omega | (congr 3; omega) | (congr 2; omega))
  · -- 10: [0, 1, 2, 6]
    rintro ⟨iK, cK, rK, iI, cI, rI⟩ hd
    simp only [c01_P, c01_I] at hd ⊢
    obtain ⟨k1, k2, k3, k4, k5, k6⟩ := hd
    refine ⟨fun h => (by cases h), ?_⟩
    simp only [allL, and_true]
    simp (implicitDefEqProofs := false) (disch := omega) only [go_sem, simprocAttr, go_sem, Nat.le_refl, encV_nil, encT_nil, Tryd.results38]
    refine ⟨13, (iK, cK, rK, iI, cI, rI), by kernel_rfl, ⟨k1, by simp only; omega, k3, k4, k5, k6⟩, ?_⟩
    simp only [c01_I]
    refine ⟨?_, by simp (disch := omega) only [tok_T, tok_F, toks_T, toks_F, ob_T, ob_F, obs_T, obs_F, Bool.true_and, Bool.and_eq_true, go_sem, simprocAttr, decide_eq_true_eq, flatT_flatten, flatV_flatten, k6, ltL_app, ltL_flatT, ltL_flatV] <;> try first | omega | ((repeat' (first | exact And.intro rfl (by omega) | (refine And.intro ?_ ?_))) <;> first | rfl | omega | (congr 3; omega) | (congr 2; omega)), ?_, ?_, ?_, ?_, ?_⟩ <;> simp only [go_sem, simprocAttr, decide_eq_true_eq, flatT_flatten, flatV_flatten, k6, ltL_app, ltL_flatT, ltL_flatV] <;> try first | omega | ((repeat' (first | exact And.intro rfl (by omega) | (refine And.intro ?_ ?_))) <;> first | rfl | omega | (congr 3; omega) | (congr 2; omega))
  · -- 11: [0, 1, 3, 4]
    rintro ⟨iK, cK, rK, iI, cI, rI⟩ hd
    simp only [c01_P, c01_I] at hd ⊢
    refine ⟨fun h => (by cases h), ?_⟩
    simp only [allL, and_true]
    simp (implicitDefEqProofs := false) (disch := omega) only [go_sem, simprocAttr, go_sem, Nat.le_refl, encV_nil, encT_nil, Tryd.results38]
    refine CallOk.ofI (OkI.clone (st := ⟨[], _, _, _, _⟩) (by kernel_rfl) clS_rd rfl one_S (by decide) (encT (y :: ys)) (encT_all1 _) (by rw [encT_len]; simp) (by rw [encT_len]; simp only [List.length_cons]; omega)) rfl rfl rfl rfl ?_
    rintro r st1 ⟨cK, rK, q1, q2, q3, q4, rfl, rfl⟩
    rw [encT_len] at q1 q3
    simp (implicitDefEqProofs := false) (disch := omega) only [go_sem, simprocAttr, go_sem, Nat.le_refl, encV_nil, encT_nil, Tryd.results38]
    refine ⟨12, (9, cK, rK, iI, cI, rI), by kernel_rfl, ⟨by simp only; omega, by simp only; omega, q1, q2, by simpa using q3, q4⟩, ?_⟩
    simp only [c01_I]
    refine ⟨?_, by simp (disch := omega) only [tok_T, tok_F, toks_T, toks_F, ob_T, ob_F, obs_T, obs_F, Bool.true_and, Bool.and_eq_true, go_sem, simprocAttr, decide_eq_true_eq, flatT_flatten, flatV_flatten, q4, ltL_app, ltL_flatT, ltL_flatV] <;> try first | omega | ((repeat' (first | exact And.intro rfl (by omega) | (refine And.intro ?_ ?_))) <;> first | rfl | omega | (congr 3; omega) | (congr 2; omega)), ?_, ?_, ?_, ?_, ?_⟩ <;> simp only [go_sem, simprocAttr, decide_eq_true_eq, flatT_flatten, flatV_flatten, q4, ltL_app, ltL_flatT, ltL_flatV] <;> try first | omega | ((repeat' (first | exact And.intro rfl (by omega) | (refine And.intro ?_ ?_))) <;> first | rfl | omega | (congr 3; omega) | (congr 2; omega))
  · -- 12: [0, 1, 2, 3, 4]
    rintro ⟨iK, cK, rK, iI, cI, rI⟩ hd
    simp only [c01_P, c01_I] at hd ⊢
    obtain ⟨k1, k2, k3, k4, k5, k6⟩ := hd
    refine ⟨fun h => (by cases h), ?_⟩
    simp only [allL, and_true]
    refine ⟨?_, ?_⟩
    · simp (implicitDefEqProofs := false) (disch := omega) only [go_sem, simprocAttr, go_sem, Nat.le_refl, encV_nil, encT_nil, Tryd.results38]
      with_reducible refine CallOk.of cloneV_nil rfl ?_
      simp (implicitDefEqProofs := false) (disch := omega) only [go_sem, simprocAttr, go_sem, Nat.le_refl, encV_nil, encT_nil, Tryd.results38]
      refine ⟨14, (iK, cK, rK, iI, cI, rI), by kernel_rfl, ⟨k1, by simp only; omega, k3, k4, k5, k6⟩, ?_⟩
      simp only [c01_I]
      refine ⟨?_, by simp (disch := omega) only [tok_T, tok_F, toks_T, toks_F, ob_T, ob_F, obs_T, obs_F, Bool.true_and, Bool.and_eq_true, go_sem, simprocAttr, decide_eq_true_eq, flatT_flatten, flatV_flatten, k6, ltL_app, ltL_flatT, ltL_flatV] <;> try first | omega | ((repeat' (first | exact And.intro rfl (by omega) | (refine And.intro ?_ ?_))) <;> first | rfl | omega | (congr 3; omega) | (congr 2; omega)), ?_, ?_, ?_, ?_, ?_⟩ <;> simp only [go_sem, simprocAttr, decide_eq_true_eq, flatT_flatten, flatV_flatten, k6, ltL_app, ltL_flatT, ltL_flatV] <;> try first | omega | ((repeat' (first | exact And.intro rfl (by omega) | (refine And.intro ?_ ?_))) <;> first | rfl | omega | (congr 3; omega) | (congr 2; omega))
    · simp (implicitDefEqProofs := false) (disch := omega) only [go_sem, simprocAttr, go_sem, Nat.le_refl, encV_nil, encT_nil, Tryd.results38]
      refine ⟨15, (iK, cK, rK, iI, cI, rI), by kernel_rfl, ⟨k1, by simp only; omega, k3, k4, k5, k6⟩, ?_⟩
      simp only [c01_I]
      refine ⟨?_, by simp (disch := omega) only [tok_T, tok_F, toks_T, toks_F, ob_T, ob_F, obs_T, obs_F, Bool.true_and, Bool.and_eq_true, go_sem, simprocAttr, decide_eq_true_eq, flatT_flatten, flatV_flatten, k6, ltL_app, ltL_flatT, ltL_flatV] <;> try first | omega | ((repeat' (first | exact And.intro rfl (by omega) | (refine And.intro ?_ ?_))) <;> first | rfl | omega | (congr 3; omega) | (congr 2; omega)), ?_, ?_, ?_, ?_, ?_⟩ <;> simp only [go_sem, simprocAttr, decide_eq_true_eq, flatT_flatten, flatV_flatten, k6, ltL_app, ltL_flatT, ltL_flatV] <;> try first | omega | ((repeat' (first | exact And.intro rfl (by omega) | (refine And.intro ?_ ?_))) <;> first | rfl | omega | (congr 3; omega) | (congr 2; omega))
  · -- 13: [0, 1, 2, 3, 6]
    rintro ⟨iK, cK, rK, iI, cI, rI⟩ hd
    simp only [c01_P, c01_I] at hd ⊢
    obtain ⟨k1, k2, k3, k4, k5, k6⟩ := hd
    refine ⟨fun h => (by cases h), ?_⟩
    simp only [allL, and_true]
    simp (implicitDefEqProofs := false) (disch := omega) only [go_sem, simprocAttr, go_sem, Nat.le_refl, encV_nil, encT_nil, Tryd.results38]
    refine ⟨15, (iK, cK, rK, iI, cI, rI), by kernel_rfl, ⟨k1, by simp only; omega, k3, k4, k5, k6⟩, ?_⟩
    simp only [c01_I]
    refine ⟨?_, by simp (disch := omega) only [tok_T, tok_F, toks_T, toks_F, ob_T, ob_F, obs_T, obs_F, Bool.true_and, Bool.and_eq_true, go_sem, simprocAttr, decide_eq_true_eq, flatT_flatten, flatV_flatten, k6, ltL_app, ltL_flatT, ltL_flatV] <;> try first | omega | ((repeat' (first | exact And.intro rfl (by omega) | (refine And.intro ?_ ?_))) <;> first | rfl | omega | (congr 3; omega) | (congr 2; omega)), ?_, ?_, ?_, ?_, ?_⟩ <;> simp only [go_sem, simprocAttr, decide_eq_true_eq, flatT_flatten, flatV_flatten, k6, ltL_app, ltL_flatT, ltL_flatV] <;> try first | omega | ((repeat' (first | exact And.intro rfl (by omega) | (refine And.intro ?_ ?_))) <;> first | rfl | omega | (congr 3; omega) | (congr 2; omega))
  · -- 14: [0, 1, 2, 3, 4, 5]
    rintro ⟨iK, cK, rK, iI, cI, rI⟩ hd
    simp only [c01_P, c01_I] at hd ⊢
    obtain ⟨k1, k2, k3, k4, k5, k6⟩ := hd
    refine ⟨fun h => (by cases h), ?_⟩
    simp only [allL, and_true]
    simp (implicitDefEqProofs := false) (disch := omega) only [go_sem, simprocAttr, go_sem, Nat.le_refl, encV_nil, encT_nil, Tryd.results38]
    refine ⟨16, (iK, cK, rK, iI, cI, rI), by kernel_rfl, ⟨k1, by simp only; omega, k3, k4, k5, k6⟩, ?_⟩
    simp only [c01_I]
    refine ⟨?_, by simp (disch := omega) only [tok_T, tok_F, toks_T, toks_F, ob_T, ob_F, obs_T, obs_F, Bool.true_and, Bool.and_eq_true, go_sem, simprocAttr, decide_eq_true_eq, flatT_flatten, flatV_flatten, k6, ltL_app, ltL_flatT, ltL_flatV] <;> try first | omega | ((repeat' (first | exact And.intro rfl (by omega) | (refine And.intro ?_ ?_))) <;> first | rfl | omega | (congr 3; omega) | (congr 2; omega)), ?_, ?_, ?_, ?_, ?_⟩ <;> simp only [go_sem, simprocAttr, decide_eq_true_eq, flatT_flatten, flatV_flatten, k6, ltL_app, ltL_flatT, ltL_flatV] <;> try first | omega | ((repeat' (first | exact And.intro rfl (by omega) | (refine And.intro ?_ ?_))) <;> first | rfl | omega | (congr 3; omega) | (congr 2; omega))
  · -- 15: [0, 1, 2, 3, 4, 6]
    rintro ⟨iK, cK, rK, iI, cI, rI⟩ hd
    simp only [c01_P, c01_I] at hd ⊢
    obtain ⟨k1, k2, k3, k4, k5, k6⟩ := hd
    refine ⟨fun h => (by cases h), ?_⟩
    simp only [allL, and_true]
    simp (implicitDefEqProofs := false) (disch := omega) only [go_sem, simprocAttr, go_sem, Nat.le_refl, encV_nil, encT_nil, Tryd.results38]
    with_reducible refine CallOk.of cloneV_nil rfl ?_
    simp (implicitDefEqProofs := false) (disch := omega) only [go_sem, simprocAttr, go_sem, Nat.le_refl, encV_nil, encT_nil, Tryd.results38]
    refine ⟨16, (iK, cK, rK, iI, cI, rI), by kernel_rfl, ⟨k1, by simp only; omega, k3, k4, k5, k6⟩, ?_⟩
    simp only [c01_I]
    refine ⟨?_, by simp (disch := omega) only [tok_T, tok_F, toks_T, toks_F, ob_T, ob_F, obs_T, obs_F, Bool.true_and, Bool.and_eq_true, go_sem, simprocAttr, decide_eq_true_eq, flatT_flatten, flatV_flatten, k6, ltL_app, ltL_flatT, ltL_flatV] <;> try first | omega | ((repeat' (first | exact And.intro rfl (by omega) | (refine And.intro ?_ ?_))) <;> first | rfl | omega | (congr 3; omega) | (congr 2; omega)), ?_, ?_, ?_, ?_, ?_⟩ <;> simp only [go_sem, simprocAttr, decide_eq_true_eq, flatT_flatten, flatV_flatten, k6, ltL_app, ltL_flatT, ltL_flatV] <;> try first | omega | ((repeat' (first | exact And.intro rfl (by omega) | (refine And.intro ?_ ?_))) <;> first | rfl | omega | (congr 3; omega) | (congr 2; omega))
  · -- 16: [0, 1, 2, 3, 4, 5, 6]
    rintro ⟨iK, cK, rK, iI, cI, rI⟩ hd
    simp only [c01_P, c01_I] at hd ⊢
    obtain ⟨k1, k2, k3, k4, k5, k6⟩ := hd
    refine ⟨fun h => (by cases h), ?_⟩
    simp only [allL, and_true]
    simp (implicitDefEqProofs := false) (disch := omega) only [go_sem, simprocAttr, go_sem, Nat.le_refl, encV_nil, encT_nil, Tryd.results38]
    refine ⟨17, (iK, cK, rK, iI, cI, rI), by kernel_rfl, ⟨k1, by simp only; omega, k3, k4, k5, k6⟩, ?_⟩
    simp only [c01_I]
    refine ⟨?_, by simp (disch := omega) only [tok_T, tok_F, toks_T, toks_F, ob_T, ob_F, obs_T, obs_F, Bool.true_and, Bool.and_eq_true, go_sem, simprocAttr, decide_eq_true_eq, flatT_flatten, flatV_flatten, k6, ltL_app, ltL_flatT, ltL_flatV] <;> try first | omega | ((repeat' (first | exact And.intro rfl (by omega) | (refine And.intro ?_ ?_))) <;> first | rfl | omega | (congr 3; omega) | (congr 2; omega)), ?_, ?_, ?_, ?_, ?_⟩ <;> simp only [go_sem, simprocAttr, decide_eq_true_eq, flatT_flatten, flatV_flatten, k6, ltL_app, ltL_flatT, ltL_flatV] <;> try first | omega | ((repeat' (first | exact And.intro rfl (by omega) | (refine And.intro ?_ ?_))) <;> first | rfl | omega | (congr 3; omega) | (congr 2; omega))
  · -- 17: [0, 1, 2, 3, 4, 5, 6, 7]
    rintro ⟨iK, cK, rK, iI, cI, rI⟩ hd
    simp only [c01_P, c01_I] at hd ⊢
    obtain ⟨k1, k2, k3, k4, k5, k6⟩ := hd
    refine ⟨fun h => (by cases h), ?_⟩
    simp only [allL, and_true]
    simp (implicitDefEqProofs := false) (disch := omega) only [go_sem, simprocAttr, go_sem, Nat.le_refl, encV_nil, encT_nil, Tryd.results38]
    refine ⟨18, (iK, cK, rK, iI, cI, rI), by kernel_rfl, ⟨k1, by simp only; omega, k3, k4, k5, k6⟩, ?_⟩
    simp only [c01_I]
    refine ⟨?_, by simp (disch := omega) only [tok_T, tok_F, toks_T, toks_F, ob_T, ob_F, obs_T, obs_F, Bool.true_and, Bool.and_eq_true, go_sem, simprocAttr, decide_eq_true_eq, flatT_flatten, flatV_flatten, k6, ltL_app, ltL_flatT, ltL_flatV] <;> try first | omega | ((repeat' (first | exact And.intro rfl (by omega) | (refine And.intro ?_ ?_))) <;> first | rfl | omega | (congr 3; omega) | (congr 2; omega)), ?_, ?_, ?_, ?_, ?_⟩ <;> simp only [go_sem, simprocAttr, decide_eq_true_eq, flatT_flatten, flatV_flatten, k6, ltL_app, ltL_flatT, ltL_flatV] <;> try first | omega | ((repeat' (first | exact And.intro rfl (by omega) | (refine And.intro ?_ ?_))) <;> first | rfl | omega | (congr 3; omega) | (congr 2; omega))
  · -- 18: [0, 1, 2, 3, 4, 5, 6, 7, 8]
    rintro ⟨iK, cK, rK, iI, cI, rI⟩ hd
    simp only [c01_P, c01_I] at hd ⊢
    obtain ⟨k1, k2, k3, k4, k5, k6⟩ := hd
    refine ⟨fun h => (by cases h), ?_⟩
    simp only [allL, and_true]
    simp (implicitDefEqProofs := false) (disch := omega) only [go_sem, simprocAttr, go_sem, Nat.le_refl, encV_nil, encT_nil, Tryd.results38]
    refine ⟨19, (iK, cK, rK, iI, cI, rI), by kernel_rfl, ⟨k1, by simp only; omega, k3, k4, k5, k6⟩, ?_⟩
    simp only [c01_I]
    refine ⟨?_, by simp (disch := omega) only [tok_T, tok_F, toks_T, toks_F, ob_T, ob_F, obs_T, obs_F, Bool.true_and, Bool.and_eq_true, go_sem, simprocAttr, decide_eq_true_eq, flatT_flatten, flatV_flatten, k6, ltL_app, ltL_flatT, ltL_flatV] <;> try first | omega | ((repeat' (first | exact And.intro rfl (by omega) | (refine And.intro ?_ ?_))) <;> first | rfl | omega | (congr 3; omega) | (congr 2; omega)), ?_, ?_, ?_, ?_, ?_⟩ <;> simp only [go_sem, simprocAttr, decide_eq_true_eq, flatT_flatten, flatV_flatten, k6, ltL_app, ltL_flatT, ltL_flatV] <;> try first | omega | ((repeat' (first | exact And.intro rfl (by omega) | (refine And.intro ?_ ?_))) <;> first | rfl | omega | (congr 3; omega) | (congr 2; omega))
  · -- 19: [0, 1, 2, 3, 4, 5, 6, 7, 8, 9]
    rintro ⟨iK, cK, rK, iI, cI, rI⟩ hd
    simp only [c01_P, c01_I] at hd ⊢
    obtain ⟨k1, k2, k3, k4, k5, k6⟩ := hd
    refine ⟨fun _ => ?_, trivial⟩
    simp (implicitDefEqProofs := false) (disch := omega) only [go_sem, simprocAttr, go_sem, Nat.le_refl, encV_nil, encT_nil, Tryd.results38]
    refine p_loop (ι := Unit) (fun p => ⟨[(17, vI 0), (16, vI 0), (3, .ptr 3 0), (2, .ptr 1 0)], [(iK, .box 9 (flatT (y :: ys) ++ rK)), (3, .box 32 [vI k, vB b, vI n, vS s, .sl [], .ms iK 0 (ys.length + 1) cK]), (1, .box 32 [vI 0, vB false, vI 0, vS ByteArray.empty, vNil, vNil])], [], 16, 15⟩) (fun p => 0) () ?_ ?_
    · refine ⟨?_, by simp (disch := omega) only [tok_T, tok_F, toks_T, toks_F, ob_T, ob_F, obs_T, obs_F, Bool.true_and, Bool.and_eq_true, go_sem, simprocAttr, decide_eq_true_eq, Int.natCast_zero, k6, ltL_app, ltL_flatT, ltL_flatV] <;> try first | omega | ((repeat' (first | exact And.intro rfl (by omega) | (refine And.intro ?_ ?_))) <;> first | rfl | omega | (congr 3; omega) | (congr 2; omega)), ?_, ?_, ?_, ?_, ?_⟩ <;> simp only [go_sem, simprocAttr, decide_eq_true_eq, Int.natCast_zero, k6, ltL_app, ltL_flatT, ltL_flatV] <;> try first | omega | ((repeat' (first | exact And.intro rfl (by omega) | (refine And.intro ?_ ?_))) <;> first | rfl | omega | (congr 3; omega) | (congr 2; omega))
    rintro ⟨⟩
    simp (implicitDefEqProofs := false) (disch := omega) only [go_sem, simprocAttr, go_sem, Nat.le_refl, encV_nil, encT_nil, Tryd.results38]
    refine ⟨⟨[], [(iK, .box 9 (flatT (y :: ys) ++ rK))], [], 16, 15⟩, ⟨3, 0, [], iK, cK, rK, 16, 15, by omega, by omega, by omega, Nat.le_refl _, Nat.zero_le _, k3, k4, rfl, k5, fun _ _ => rfl, k6, rfl, rfl⟩, ?_⟩
    refine ⟨?_, by simp (disch := omega) only [tok_T, tok_F, toks_T, toks_F, ob_T, ob_F, obs_T, obs_F, Bool.true_and, Bool.and_eq_true, go_sem, simprocAttr, decide_eq_true_eq, k6, ltL_app, ltL_flatT, ltL_flatV, decide_eq_true k2] <;> try first | omega | ((repeat' (first | exact And.intro rfl (by omega) | (refine And.intro ?_ ?_))) <;> first | rfl | omega | (congr 3; omega) | (congr 2; omega)), ?_, ?_, ?_, ?_, ?_⟩ <;> simp only [go_sem, simprocAttr, decide_eq_true_eq, k6, ltL_app, ltL_flatT, ltL_flatV, decide_eq_true k2] <;> try first | omega | ((repeat' (first | exact And.intro rfl (by omega) | (refine And.intro ?_ ?_))) <;> first | rfl | omega | (congr 3; omega) | (congr 2; omega))
end Go.Proofs.YtahgjolokkfhjaaDoor
