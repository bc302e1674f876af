import Derived.Test.YtahgjolokkfhjaaDoorGS15
/-
  A value's copy: the same, in memory of its own.
-/
open Go Go.Proofs Go.Pw Go.RowKit
namespace Go.Proofs.YtahgjolokkfhjaaDoor
set_option maxRecDepth 4000
set_option linter.unusedVariables false
set_option linter.unusedSimpArgs false

def c10_I (k : Int) (b : Bool) (n : Int) (s : ByteArray) (x : V) (xs : List V) (y : ByteArray) (ys : List ByteArray) : Nat → Nat × Nat × List PV × Nat × Nat × List PV → PS := fun i d => match i with
  | 0 => ⟨[(3, .ptr 3 0), (1, .ptr 0 0), (2, .ptr 1 0)], [(3, .box 32 [vI k, vB b, vI n, vS s, .sl (encV (x :: xs)), .sl ([])]), (1, .box 32 [vI 0, vB false, vI 0, vS ByteArray.empty, vNil, vNil]), (0, .box 32 [vI k, vB b, vI n, vS s, .sl (encV (x :: xs)), .sl ([])])], [], 5, 5⟩
  | 1 => ⟨[(3, .ptr 3 0), (1, .ptr 0 0), (2, .ptr 1 0), (6, .ptr 0 5)], [(3, .box 32 [vI k, vB b, vI n, vS s, .sl (encV (x :: xs)), .sl ([])]), (1, .box 32 [vI 0, vB false, vI 0, vS ByteArray.empty, vNil, vNil]), (0, .box 32 [vI k, vB b, vI n, vS s, .sl (encV (x :: xs)), .sl ([])])], [], 6, 6⟩
  | 2 => ⟨[(3, .ptr 3 0), (1, .ptr 0 0), (2, .ptr 1 0), (9, .ptr 0 4)], [(3, .box 32 [vI k, vB b, vI n, vS s, .sl (encV (x :: xs)), .sl ([])]), (1, .box 32 [vI 0, vB false, vI 0, vS ByteArray.empty, vNil, vNil]), (0, .box 32 [vI k, vB b, vI n, vS s, .sl (encV (x :: xs)), .sl ([])])], [], 6, 6⟩
  | 3 => ⟨[(3, .ptr 3 0), (1, .ptr 0 0), (2, .ptr 1 0), (6, .ptr 0 5), (7, .sl ([]))], [(3, .box 32 [vI k, vB b, vI n, vS s, .sl (encV (x :: xs)), .sl ([])]), (1, .box 32 [vI 0, vB false, vI 0, vS ByteArray.empty, vNil, vNil]), (0, .box 32 [vI k, vB b, vI n, vS s, .sl (encV (x :: xs)), .sl ([])])], [], 7, 7⟩
  | 4 => ⟨[(3, .ptr 3 0), (1, .ptr 0 0), (2, .ptr 1 0), (6, .ptr 0 5), (9, .ptr 0 4)], [(3, .box 32 [vI k, vB b, vI n, vS s, .sl (encV (x :: xs)), .sl ([])]), (1, .box 32 [vI 0, vB false, vI 0, vS ByteArray.empty, vNil, vNil]), (0, .box 32 [vI k, vB b, vI n, vS s, .sl (encV (x :: xs)), .sl ([])])], [], 7, 7⟩
  | 5 => ⟨[(3, .ptr 3 0), (1, .ptr 0 0), (2, .ptr 1 0), (9, .ptr 0 4), (10, .sl (encV (x :: xs)))], [(3, .box 32 [vI k, vB b, vI n, vS s, .sl (encV (x :: xs)), .sl ([])]), (1, .box 32 [vI 0, vB false, vI 0, vS ByteArray.empty, vNil, vNil]), (0, .box 32 [vI k, vB b, vI n, vS s, .sl (encV (x :: xs)), .sl ([])])], [], 7, 7⟩
  | 6 => ⟨[(3, .ptr 3 0), (1, .ptr 0 0), (2, .ptr 1 0), (6, .ptr 0 5), (7, .sl ([])), (8, .sl [])], [(3, .box 32 [vI k, vB b, vI n, vS s, .sl (encV (x :: xs)), .sl ([])]), (1, .box 32 [vI 0, vB false, vI 0, vS ByteArray.empty, vNil, vNil]), (0, .box 32 [vI k, vB b, vI n, vS s, .sl (encV (x :: xs)), .sl ([])])], [], 8, 8⟩
  | 7 => ⟨[(3, .ptr 3 0), (1, .ptr 0 0), (2, .ptr 1 0), (6, .ptr 0 5), (7, .sl ([])), (9, .ptr 0 4)], [(3, .box 32 [vI k, vB b, vI n, vS s, .sl (encV (x :: xs)), .sl ([])]), (1, .box 32 [vI 0, vB false, vI 0, vS ByteArray.empty, vNil, vNil]), (0, .box 32 [vI k, vB b, vI n, vS s, .sl (encV (x :: xs)), .sl ([])])], [], 8, 8⟩
  | 8 => ⟨[(3, .ptr 3 0), (1, .ptr 0 0), (2, .ptr 1 0), (6, .ptr 0 5), (9, .ptr 0 4), (10, .sl (encV (x :: xs)))], [(3, .box 32 [vI k, vB b, vI n, vS s, .sl (encV (x :: xs)), .sl ([])]), (1, .box 32 [vI 0, vB false, vI 0, vS ByteArray.empty, vNil, vNil]), (0, .box 32 [vI k, vB b, vI n, vS s, .sl (encV (x :: xs)), .sl ([])])], [], 8, 8⟩
  | 9 => ⟨[(3, .ptr 3 0), (1, .ptr 0 0), (2, .ptr 1 0), (6, .ptr 0 5), (7, .sl ([])), (8, .sl []), (9, .ptr 0 4)], [(3, .box 32 [vI k, vB b, vI n, vS s, .sl (encV (x :: xs)), .sl ([])]), (1, .box 32 [vI 0, vB false, vI 0, vS ByteArray.empty, vNil, vNil]), (0, .box 32 [vI k, vB b, vI n, vS s, .sl (encV (x :: xs)), .sl ([])])], [], 9, 9⟩
  | 10 => ⟨[(3, .ptr 3 0), (1, .ptr 0 0), (2, .ptr 1 0), (6, .ptr 0 5), (7, .sl ([])), (8, .sl []), (12, .ptr 3 5)], [(3, .box 32 [vI k, vB b, vI n, vS s, .sl (encV (x :: xs)), .sl ([])]), (1, .box 32 [vI 0, vB false, vI 0, vS ByteArray.empty, vNil, vNil]), (0, .box 32 [vI k, vB b, vI n, vS s, .sl (encV (x :: xs)), .sl ([])])], [], 9, 9⟩
  | 11 => ⟨[(3, .ptr 3 0), (1, .ptr 0 0), (2, .ptr 1 0), (6, .ptr 0 5), (7, .sl ([])), (9, .ptr 0 4), (10, .sl (encV (x :: xs)))], [(3, .box 32 [vI k, vB b, vI n, vS s, .sl (encV (x :: xs)), .sl ([])]), (1, .box 32 [vI 0, vB false, vI 0, vS ByteArray.empty, vNil, vNil]), (0, .box 32 [vI k, vB b, vI n, vS s, .sl (encV (x :: xs)), .sl ([])])], [], 9, 9⟩
  | 12 => ⟨[(3, .ptr 3 0), (1, .ptr 0 0), (2, .ptr 1 0), (6, .ptr 0 5), (7, .sl ([])), (8, .sl []), (9, .ptr 0 4), (10, .sl (encV (x :: xs)))], [(3, .box 32 [vI k, vB b, vI n, vS s, .sl (encV (x :: xs)), .sl ([])]), (1, .box 32 [vI 0, vB false, vI 0, vS ByteArray.empty, vNil, vNil]), (0, .box 32 [vI k, vB b, vI n, vS s, .sl (encV (x :: xs)), .sl ([])])], [], 10, 10⟩
  | 13 => ⟨[(3, .ptr 3 0), (1, .ptr 0 0), (2, .ptr 1 0), (6, .ptr 0 5), (7, .sl ([])), (8, .sl []), (9, .ptr 0 4), (12, .ptr 3 5)], [(3, .box 32 [vI k, vB b, vI n, vS s, .sl (encV (x :: xs)), .sl ([])]), (1, .box 32 [vI 0, vB false, vI 0, vS ByteArray.empty, vNil, vNil]), (0, .box 32 [vI k, vB b, vI n, vS s, .sl (encV (x :: xs)), .sl ([])])], [], 10, 10⟩
  | 14 => ⟨[(3, .ptr 3 0), (1, .ptr 0 0), (2, .ptr 1 0), (6, .ptr 0 5), (7, .sl ([])), (8, .sl []), (9, .ptr 0 4), (10, .sl (encV (x :: xs))), (11, .ms d.2.2.2.1 0 (x :: xs).length d.2.2.2.2.1)], [(d.2.2.2.1, .box 32 (flatV (x :: xs) ++ d.2.2.2.2.2)), (3, .box 32 [vI k, vB b, vI n, vS s, .sl (encV (x :: xs)), .sl ([])]), (1, .box 32 [vI 0, vB false, vI 0, vS ByteArray.empty, vNil, vNil]), (0, .box 32 [vI k, vB b, vI n, vS s, .sl (encV (x :: xs)), .sl ([])])], [], 12, 11⟩
  | 15 => ⟨[(3, .ptr 3 0), (1, .ptr 0 0), (2, .ptr 1 0), (6, .ptr 0 5), (7, .sl ([])), (8, .sl []), (9, .ptr 0 4), (10, .sl (encV (x :: xs))), (12, .ptr 3 5)], [(3, .box 32 [vI k, vB b, vI n, vS s, .sl (encV (x :: xs)), .sl ([])]), (1, .box 32 [vI 0, vB false, vI 0, vS ByteArray.empty, vNil, vNil]), (0, .box 32 [vI k, vB b, vI n, vS s, .sl (encV (x :: xs)), .sl ([])])], [], 11, 11⟩
  | 16 => ⟨[(3, .ptr 3 0), (1, .ptr 0 0), (2, .ptr 1 0), (6, .ptr 0 5), (7, .sl ([])), (8, .sl []), (9, .ptr 0 4), (10, .sl (encV (x :: xs))), (11, .ms d.2.2.2.1 0 (x :: xs).length d.2.2.2.2.1), (12, .ptr 3 5)], [(d.2.2.2.1, .box 32 (flatV (x :: xs) ++ d.2.2.2.2.2)), (3, .box 32 [vI k, vB b, vI n, vS s, .sl (encV (x :: xs)), .sl ([])]), (1, .box 32 [vI 0, vB false, vI 0, vS ByteArray.empty, vNil, vNil]), (0, .box 32 [vI k, vB b, vI n, vS s, .sl (encV (x :: xs)), .sl ([])])], [], 13, 12⟩
  | 17 => ⟨[(3, .ptr 3 0), (1, .ptr 0 0), (2, .ptr 1 0), (6, .ptr 0 5), (7, .sl ([])), (8, .sl []), (9, .ptr 0 4), (10, .sl (encV (x :: xs))), (11, .ms d.2.2.2.1 0 (x :: xs).length d.2.2.2.2.1), (12, .ptr 3 5)], [(d.2.2.2.1, .box 32 (flatV (x :: xs) ++ d.2.2.2.2.2)), (3, .box 32 [vI k, vB b, vI n, vS s, .sl (encV (x :: xs)), .sl []]), (1, .box 32 [vI 0, vB false, vI 0, vS ByteArray.empty, vNil, vNil]), (0, .box 32 [vI k, vB b, vI n, vS s, .sl (encV (x :: xs)), .sl ([])])], [], 14, 13⟩
  | 18 => ⟨[(3, .ptr 3 0), (1, .ptr 0 0), (2, .ptr 1 0), (6, .ptr 0 5), (7, .sl ([])), (8, .sl []), (9, .ptr 0 4), (10, .sl (encV (x :: xs))), (11, .ms d.2.2.2.1 0 (x :: xs).length d.2.2.2.2.1), (12, .ptr 3 5), (13, .ptr 3 4)], [(d.2.2.2.1, .box 32 (flatV (x :: xs) ++ d.2.2.2.2.2)), (3, .box 32 [vI k, vB b, vI n, vS s, .sl (encV (x :: xs)), .sl []]), (1, .box 32 [vI 0, vB false, vI 0, vS ByteArray.empty, vNil, vNil]), (0, .box 32 [vI k, vB b, vI n, vS s, .sl (encV (x :: xs)), .sl ([])])], [], 15, 14⟩
  | 19 => ⟨[(3, .ptr 3 0), (1, .ptr 0 0), (2, .ptr 1 0), (6, .ptr 0 5), (7, .sl ([])), (8, .sl []), (9, .ptr 0 4), (10, .sl (encV (x :: xs))), (11, .ms d.2.2.2.1 0 (x :: xs).length d.2.2.2.2.1), (12, .ptr 3 5), (13, .ptr 3 4)], [(d.2.2.2.1, .box 32 (flatV (x :: xs) ++ d.2.2.2.2.2)), (3, .box 32 [vI k, vB b, vI n, vS s, .ms d.2.2.2.1 0 (x :: xs).length d.2.2.2.2.1, .sl []]), (1, .box 32 [vI 0, vB false, vI 0, vS ByteArray.empty, vNil, vNil]), (0, .box 32 [vI k, vB b, vI n, vS s, .sl (encV (x :: xs)), .sl ([])])], [], 16, 15⟩
  | _ => ⟨[(3, .ptr 3 0), (1, .ptr 0 0), (2, .ptr 1 0), (6, .ptr 0 5), (7, .sl ([])), (8, .sl []), (9, .ptr 0 4), (10, .sl (encV (x :: xs))), (11, .ms d.2.2.2.1 0 (x :: xs).length d.2.2.2.2.1), (12, .ptr 3 5), (13, .ptr 3 4)], [(d.2.2.2.1, .box 32 (flatV (x :: xs) ++ d.2.2.2.2.2)), (3, .box 32 [vI k, vB b, vI n, vS s, .ms d.2.2.2.1 0 (x :: xs).length d.2.2.2.2.1, .sl []]), (1, .box 32 [vI 0, vB false, vI 0, vS ByteArray.empty, vNil, vNil]), (0, .box 32 [vI k, vB b, vI n, vS s, .sl (encV (x :: xs)), .sl ([])])], [], 16, 15⟩
def c10_P (x : V) (xs : List V) (y : ByteArray) (ys : List ByteArray) : Nat → Nat × Nat × List PV × Nat × Nat × List PV → Prop := fun i d => match i with
  | 0 => True
  | 1 => True
  | 2 => True
  | 3 => True
  | 4 => True
  | 5 => True
  | 6 => True
  | 7 => True
  | 8 => True
  | 9 => True
  | 10 => True
  | 11 => True
  | 12 => True
  | 13 => True
  | 14 => (5 ≤ d.2.2.2.1 ∧ d.2.2.2.1 < 12 ∧ (x :: xs).length ≤ d.2.2.2.2.1 ∧ d.2.2.2.2.1 ≤ maxLen ∧ d.2.2.2.2.2.length = (d.2.2.2.2.1 - (x :: xs).length) * 6 ∧ ∀ a b, PV.ltL a b d.2.2.2.2.2 = true)
  | 15 => True
  | 16 => (5 ≤ d.2.2.2.1 ∧ d.2.2.2.1 < 13 ∧ (x :: xs).length ≤ d.2.2.2.2.1 ∧ d.2.2.2.2.1 ≤ maxLen ∧ d.2.2.2.2.2.length = (d.2.2.2.2.1 - (x :: xs).length) * 6 ∧ ∀ a b, PV.ltL a b d.2.2.2.2.2 = true)
  | 17 => (5 ≤ d.2.2.2.1 ∧ d.2.2.2.1 < 14 ∧ (x :: xs).length ≤ d.2.2.2.2.1 ∧ d.2.2.2.2.1 ≤ maxLen ∧ d.2.2.2.2.2.length = (d.2.2.2.2.1 - (x :: xs).length) * 6 ∧ ∀ a b, PV.ltL a b d.2.2.2.2.2 = true)
  | 18 => (5 ≤ d.2.2.2.1 ∧ d.2.2.2.1 < 15 ∧ (x :: xs).length ≤ d.2.2.2.2.1 ∧ d.2.2.2.2.1 ≤ maxLen ∧ d.2.2.2.2.2.length = (d.2.2.2.2.1 - (x :: xs).length) * 6 ∧ ∀ a b, PV.ltL a b d.2.2.2.2.2 = true)
  | 19 => (5 ≤ d.2.2.2.1 ∧ d.2.2.2.1 < 16 ∧ (x :: xs).length ≤ d.2.2.2.2.1 ∧ d.2.2.2.2.1 ≤ maxLen ∧ d.2.2.2.2.2.length = (d.2.2.2.2.1 - (x :: xs).length) * 6 ∧ ∀ a b, PV.ltL a b d.2.2.2.2.2 = true)
  | _ => True
def tab_c10 : List Row := [⟨#[false, false, false, false, false, false, false, false, false, false], [0, 3], 10⟩, ⟨#[true, false, false, false, false, false, false, false, false, false], [1, 3], 9⟩, ⟨#[false, false, false, true, false, false, false, false, false, false], [0, 4], 9⟩, ⟨#[true, true, false, false, false, false, false, false, false, false], [2, 3], 8⟩, ⟨#[true, false, false, true, false, false, false, false, false, false], [1, 4], 8⟩, ⟨#[false, false, false, true, true, false, false, false, false, false], [0], 8⟩, ⟨#[true, true, true, false, false, false, false, false, false, false], [3, 6], 7⟩, ⟨#[true, true, false, true, false, false, false, false, false, false], [2, 4], 7⟩, ⟨#[true, false, false, true, true, false, false, false, false, false], [1], 7⟩, ⟨#[true, true, true, true, false, false, false, false, false, false], [4, 6], 6⟩, ⟨#[true, true, true, false, false, false, true, false, false, false], [3], 6⟩, ⟨#[true, true, false, true, true, false, false, false, false, false], [2], 6⟩, ⟨#[true, true, true, true, true, false, false, false, false, false], [5, 6], 5⟩, ⟨#[true, true, true, true, false, false, true, false, false, false], [4], 5⟩, ⟨#[true, true, true, true, true, true, false, false, false, false], [6], 4⟩, ⟨#[true, true, true, true, true, false, true, false, false, false], [5], 4⟩, ⟨#[true, true, true, true, true, true, true, false, false, false], [7], 3⟩, ⟨#[true, true, true, true, true, true, true, true, false, false], [8], 2⟩, ⟨#[true, true, true, true, true, true, true, true, true, false], [9], 1⟩, ⟨#[true, true, true, true, true, true, true, true, true, true], [], 0⟩]
set_option maxHeartbeats 16000000 in
theorem c10_H (k : Int) (b : Bool) (n : Int) (s : ByteArray) (x : V) (xs : List V) (y : ByteArray) (ys : List ByteArray) (hsub : ∀ u ∈ (x :: xs), Ok Tryd.prog 38 [.agg (cellsV u)] (.agg (cellsV u))) (hl : (x :: xs).length ≤ 1000000) (hl2 : (y :: ys).length ≤ 1000000) : OkH Tryd.prog 38 [.agg (cellsV (.mk k b n s (x :: xs) []))] (CopyQ (.mk k b n s (x :: xs) [])) := by
  refine OkH.of_pwp (by kernel_rfl) Tryd.func38 rfl (by kernel_rfl) (by kernel_rfl) (bar := oneBar 2 10) ?_
  simp only [List.length_cons] at hl hl2
  have hmax : (1000000 : Nat) ≤ maxLen := by unfold maxLen; decide
  simp (implicitDefEqProofs := false) (disch := omega) only [go_sem, simprocAttr, go_sem, Nat.le_refl, encV_nil, encT_nil, Tryd.results38]
  refine p_table (by decide) tab_c10 (by kernel_rfl) (Nat × Nat × List PV × Nat × Nat × List PV) (c10_I k b n s x xs y ys) (c10_P x xs y ys) (0, 0, [], 0, 0, []) (by kernel_rfl) trivial ?_ ?_
  · simp only [c10_I]
    refine ⟨?_, ?_, ?_, ?_, ?_, ?_, ?_⟩ <;> simp only [go_sem, simprocAttr, decide_eq_true_eq, encV_nil, encT_nil] <;> try first | omega | ((repeat' (first | exact And.intro rfl (by omega) | (refine And.intro ?_ ?_))) <;> first | rfl | omega | (congr 3; omega) | (congr 2; omega))
  simp only [tab_c10, allI]
  refine ⟨?_, ?_, ?_, ?_, ?_, ?_, ?_, ?_, ?_, ?_, ?_, ?_, ?_, ?_, ?_, ?_, ?_, ?_, ?_, ?_, trivial⟩
  · -- 0: []
    rintro ⟨iK, cK, rK, iI, cI, rI⟩ hd
    simp only [c10_P, c10_I] at hd ⊢
    refine ⟨fun h => (by cases h), ?_⟩
    simp only [allL, and_true]
    refine ⟨?_, ?_⟩
    · simp (implicitDefEqProofs := false) (disch := omega) only [go_sem, simprocAttr, go_sem, Nat.le_refl, encV_nil, encT_nil, Tryd.results38]
      refine ⟨1, (iK, cK, rK, iI, cI, rI), by kernel_rfl, trivial, ?_⟩
      simp only [c10_I]
      refine ⟨?_, by simp (disch := omega) only [tok_T, tok_F, toks_T, toks_F, ob_T, ob_F, obs_T, obs_F, Bool.true_and, Bool.and_eq_true, go_sem, simprocAttr, decide_eq_true_eq, flatT_flatten, flatV_flatten, ltL_app, ltL_flatT, ltL_flatV] <;> try first | omega | ((repeat' (first | exact And.intro rfl (by omega) | (refine And.intro ?_ ?_))) <;> first | rfl | omega | (congr 3; omega) | (congr 2; omega)), ?_, ?_, ?_, ?_, ?_⟩ <;> simp only [go_sem, simprocAttr, decide_eq_true_eq, flatT_flatten, flatV_flatten, ltL_app, ltL_flatT, ltL_flatV] <;> try first | omega | ((repeat' (first | exact And.intro rfl (by omega) | (refine And.intro ?_ ?_))) <;> first | rfl | omega | (congr 3; omega) | (congr 2; omega))
    · simp (implicitDefEqProofs := false) (disch := omega) only [go_sem, simprocAttr, go_sem, Nat.le_refl, encV_nil, encT_nil, Tryd.results38]
      refine ⟨2, (iK, cK, rK, iI, cI, rI), by kernel_rfl, trivial, ?_⟩
      simp only [c10_I]
      refine ⟨?_, by simp (disch := omega) only [tok_T, tok_F, toks_T, toks_F, ob_T, ob_F, obs_T, obs_F, Bool.true_and, Bool.and_eq_true, go_sem, simprocAttr, decide_eq_true_eq, flatT_flatten, flatV_flatten, ltL_app, ltL_flatT, ltL_flatV] <;> try first | omega | ((repeat' (first | exact And.intro rfl (by omega) | (refine And.intro ?_ ?_))) <;> first | rfl | omega | (congr 3; omega) | (congr 2; omega)), ?_, ?_, ?_, ?_, ?_⟩ <;> simp only [go_sem, simprocAttr, decide_eq_true_eq, flatT_flatten, flatV_flatten, ltL_app, ltL_flatT, ltL_flatV] <;> try first | omega | ((repeat' (first | exact And.intro rfl (by omega) | (refine And.intro ?_ ?_))) <;> first | rfl | omega | (congr 3; omega) | (congr 2; omega))
  · -- 1: [0]
    rintro ⟨iK, cK, rK, iI, cI, rI⟩ hd
    simp only [c10_P, c10_I] at hd ⊢
    refine ⟨fun h => (by cases h), ?_⟩
    simp only [allL, and_true]
    refine ⟨?_, ?_⟩
    · simp (implicitDefEqProofs := false) (disch := omega) only [go_sem, simprocAttr, go_sem, Nat.le_refl, encV_nil, encT_nil, Tryd.results38]
      refine ⟨3, (iK, cK, rK, iI, cI, rI), by kernel_rfl, trivial, ?_⟩
      simp only [c10_I]
      refine ⟨?_, by simp (disch := omega) only [tok_T, tok_F, toks_T, toks_F, ob_T, ob_F, obs_T, obs_F, Bool.true_and, Bool.and_eq_true, go_sem, simprocAttr, decide_eq_true_eq, flatT_flatten, flatV_flatten, ltL_app, ltL_flatT, ltL_flatV] <;> try first | omega | ((repeat' (first | exact And.intro rfl (by omega) | (refine And.intro ?_ ?_))) <;> first | rfl | omega | (congr 3; omega) | (congr 2; omega)), ?_, ?_, ?_, ?_, ?_⟩ <;> simp only [go_sem, simprocAttr, decide_eq_true_eq, flatT_flatten, flatV_flatten, ltL_app, ltL_flatT, ltL_flatV] <;> try first | omega | ((repeat' (first | exact And.intro rfl (by omega) | (refine And.intro ?_ ?_))) <;> first | rfl | omega | (congr 3; omega) | (congr 2; omega))
    · simp (implicitDefEqProofs := false) (disch := omega) only [go_sem, simprocAttr, go_sem, Nat.le_refl, encV_nil, encT_nil, Tryd.results38]
      refine ⟨4, (iK, cK, rK, iI, cI, rI), by kernel_rfl, trivial, ?_⟩
      simp only [c10_I]
      refine ⟨?_, by simp (disch := omega) only [tok_T, tok_F, toks_T, toks_F, ob_T, ob_F, obs_T, obs_F, Bool.true_and, Bool.and_eq_true, go_sem, simprocAttr, decide_eq_true_eq, flatT_flatten, flatV_flatten, ltL_app, ltL_flatT, ltL_flatV] <;> try first | omega | ((repeat' (first | exact And.intro rfl (by omega) | (refine And.intro ?_ ?_))) <;> first | rfl | omega | (congr 3; omega) | (congr 2; omega)), ?_, ?_, ?_, ?_, ?_⟩ <;> simp only [go_sem, simprocAttr, decide_eq_true_eq, flatT_flatten, flatV_flatten, ltL_app, ltL_flatT, ltL_flatV] <;> try first | omega | ((repeat' (first | exact And.intro rfl (by omega) | (refine And.intro ?_ ?_))) <;> first | rfl | omega | (congr 3; omega) | (congr 2; omega))
  · -- 2: [3]
    rintro ⟨iK, cK, rK, iI, cI, rI⟩ hd
    simp only [c10_P, c10_I] at hd ⊢
    refine ⟨fun h => (by cases h), ?_⟩
    simp only [allL, and_true]
    refine ⟨?_, ?_⟩
    · simp (implicitDefEqProofs := false) (disch := omega) only [go_sem, simprocAttr, go_sem, Nat.le_refl, encV_nil, encT_nil, Tryd.results38]
      refine ⟨4, (iK, cK, rK, iI, cI, rI), by kernel_rfl, trivial, ?_⟩
      simp only [c10_I]
      refine ⟨?_, by simp (disch := omega) only [tok_T, tok_F, toks_T, toks_F, ob_T, ob_F, obs_T, obs_F, Bool.true_and, Bool.and_eq_true, go_sem, simprocAttr, decide_eq_true_eq, flatT_flatten, flatV_flatten, ltL_app, ltL_flatT, ltL_flatV] <;> try first | omega | ((repeat' (first | exact And.intro rfl (by omega) | (refine And.intro ?_ ?_))) <;> first | rfl | omega | (congr 3; omega) | (congr 2; omega)), ?_, ?_, ?_, ?_, ?_⟩ <;> simp only [go_sem, simprocAttr, decide_eq_true_eq, flatT_flatten, flatV_flatten, ltL_app, ltL_flatT, ltL_flatV] <;> try first | omega | ((repeat' (first | exact And.intro rfl (by omega) | (refine And.intro ?_ ?_))) <;> first | rfl | omega | (congr 3; omega) | (congr 2; omega))
    · simp (implicitDefEqProofs := false) (disch := omega) only [go_sem, simprocAttr, go_sem, Nat.le_refl, encV_nil, encT_nil, Tryd.results38]
      refine ⟨5, (iK, cK, rK, iI, cI, rI), by kernel_rfl, trivial, ?_⟩
      simp only [c10_I]
      refine ⟨?_, by simp (disch := omega) only [tok_T, tok_F, toks_T, toks_F, ob_T, ob_F, obs_T, obs_F, Bool.true_and, Bool.and_eq_true, go_sem, simprocAttr, decide_eq_true_eq, flatT_flatten, flatV_flatten, ltL_app, ltL_flatT, ltL_flatV] <;> try first | omega | ((repeat' (first | exact And.intro rfl (by omega) | (refine And.intro ?_ ?_))) <;> first | rfl | omega | (congr 3; omega) | (congr 2; omega)), ?_, ?_, ?_, ?_, ?_⟩ <;> simp only [go_sem, simprocAttr, decide_eq_true_eq, flatT_flatten, flatV_flatten, ltL_app, ltL_flatT, ltL_flatV] <;> try first | omega | ((repeat' (first | exact And.intro rfl (by omega) | (refine And.intro ?_ ?_))) <;> first | rfl | omega | (congr 3; omega) | (congr 2; omega))
  · -- 3: [0, 1]
    rintro ⟨iK, cK, rK, iI, cI, rI⟩ hd
    simp only [c10_P, c10_I] at hd ⊢
    refine ⟨fun h => (by cases h), ?_⟩
    simp only [allL, and_true]
    refine ⟨?_, ?_⟩
    · simp (implicitDefEqProofs := false) (disch := omega) only [go_sem, simprocAttr, go_sem, Nat.le_refl, encV_nil, encT_nil, Tryd.results38]
      with_reducible refine CallOk.of cloneT_nil rfl ?_
      simp (implicitDefEqProofs := false) (disch := omega) only [go_sem, simprocAttr, go_sem, Nat.le_refl, encV_nil, encT_nil, Tryd.results38]
      refine ⟨6, (iK, cK, rK, iI, cI, rI), by kernel_rfl, trivial, ?_⟩
      simp only [c10_I]
      refine ⟨?_, by simp (disch := omega) only [tok_T, tok_F, toks_T, toks_F, ob_T, ob_F, obs_T, obs_F, Bool.true_and, Bool.and_eq_true, go_sem, simprocAttr, decide_eq_true_eq, flatT_flatten, flatV_flatten, ltL_app, ltL_flatT, ltL_flatV] <;> try first | omega | ((repeat' (first | exact And.intro rfl (by omega) | (refine And.intro ?_ ?_))) <;> first | rfl | omega | (congr 3; omega) | (congr 2; omega)), ?_, ?_, ?_, ?_, ?_⟩ <;> simp only [go_sem, simprocAttr, decide_eq_true_eq, flatT_flatten, flatV_flatten, ltL_app, ltL_flatT, ltL_flatV] <;> try first | omega | ((repeat' (first | exact And.intro rfl (by omega) | (refine And.intro ?_ ?_))) <;> first | rfl | omega | (congr 3; omega) | (congr 2; omega))
    · simp (implicitDefEqProofs := false) (disch := omega) only [go_sem, simprocAttr, go_sem, Nat.le_refl, encV_nil, encT_nil, Tryd.results38]
      refine ⟨7, (iK, cK, rK, iI, cI, rI), by kernel_rfl, trivial, ?_⟩
      simp only [c10_I]
      refine ⟨?_, by simp (disch := omega) only [tok_T, tok_F, toks_T, toks_F, ob_T, ob_F, obs_T, obs_F, Bool.true_and, Bool.and_eq_true, go_sem, simprocAttr, decide_eq_true_eq, flatT_flatten, flatV_flatten, ltL_app, ltL_flatT, ltL_flatV] <;> try first | omega | ((repeat' (first | exact And.intro rfl (by omega) | (refine And.intro ?_ ?_))) <;> first | rfl | omega | (congr 3; omega) | (congr 2; omega)), ?_, ?_, ?_, ?_, ?_⟩ <;> simp only [go_sem, simprocAttr, decide_eq_true_eq, flatT_flatten, flatV_flatten, ltL_app, ltL_flatT, ltL_flatV] <;> try first | omega | ((repeat' (first | exact And.intro rfl (by omega) | (refine And.intro ?_ ?_))) <;> first | rfl | omega | (congr 3; omega) | (congr 2; omega))
  · -- 4: [0, 3]
    rintro ⟨iK, cK, rK, iI, cI, rI⟩ hd
    simp only [c10_P, c10_I] at hd ⊢
    refine ⟨fun h => (by cases h), ?_⟩
    simp only [allL, and_true]
    refine ⟨?_, ?_⟩
    · simp (implicitDefEqProofs := false) (disch := omega) only [go_sem, simprocAttr, go_sem, Nat.le_refl, encV_nil, encT_nil, Tryd.results38]
      refine ⟨7, (iK, cK, rK, iI, cI, rI), by kernel_rfl, trivial, ?_⟩
      simp only [c10_I]
      refine ⟨?_, by simp (disch := omega) only [tok_T, tok_F, toks_T, toks_F, ob_T, ob_F, obs_T, obs_F, Bool.true_and, Bool.and_eq_true, go_sem, simprocAttr, decide_eq_true_eq, flatT_flatten, flatV_flatten, ltL_app, ltL_flatT, ltL_flatV] <;> try first | omega | ((repeat' (first | exact And.intro rfl (by omega) | (refine And.intro ?_ ?_))) <;> first | rfl | omega | (congr 3; omega) | (congr 2; omega)), ?_, ?_, ?_, ?_, ?_⟩ <;> simp only [go_sem, simprocAttr, decide_eq_true_eq, flatT_flatten, flatV_flatten, ltL_app, ltL_flatT, ltL_flatV] <;> try first | omega | ((repeat' (first | exact And.intro rfl (by omega) | (refine And.intro ?_ ?_))) <;> first | rfl | omega | (congr 3; omega) | (congr 2; omega))
    · simp (implicitDefEqProofs := false) (disch := omega) only [go_sem, simprocAttr, go_sem, Nat.le_refl, encV_nil, encT_nil, Tryd.results38]
      refine ⟨8, (iK, cK, rK, iI, cI, rI), by kernel_rfl, trivial, ?_⟩
      simp only [c10_I]
      refine ⟨?_, by simp (disch := omega) only [tok_T, tok_F, toks_T, toks_F, ob_T, ob_F, obs_T, obs_F, Bool.true_and, Bool.and_eq_true, go_sem, simprocAttr, decide_eq_true_eq, flatT_flatten, flatV_flatten, ltL_app, ltL_flatT, ltL_flatV] <;> try first | omega | ((repeat' (first | exact And.intro rfl (by omega) | (refine And.intro ?_ ?_))) <;> first | rfl | omega | (congr 3; omega) | (congr 2; omega)), ?_, ?_, ?_, ?_, ?_⟩ <;> simp only [go_sem, simprocAttr, decide_eq_true_eq, flatT_flatten, flatV_flatten, ltL_app, ltL_flatT, ltL_flatV] <;> try first | omega | ((repeat' (first | exact And.intro rfl (by omega) | (refine And.intro ?_ ?_))) <;> first | rfl | omega | (congr 3; omega) | (congr 2; omega))
  · -- 5: [3, 4]
    rintro ⟨iK, cK, rK, iI, cI, rI⟩ hd
    simp only [c10_P, c10_I] at hd ⊢
    refine ⟨fun h => (by cases h), ?_⟩
    simp only [allL, and_true]
    simp (implicitDefEqProofs := false) (disch := omega) only [go_sem, simprocAttr, go_sem, Nat.le_refl, encV_nil, encT_nil, Tryd.results38]
    refine ⟨8, (iK, cK, rK, iI, cI, rI), by kernel_rfl, trivial, ?_⟩
    simp only [c10_I]
    refine ⟨?_, by simp (disch := omega) only [tok_T, tok_F, toks_T, toks_F, ob_T, ob_F, obs_T, obs_F, Bool.true_and, Bool.and_eq_true, go_sem, simprocAttr, decide_eq_true_eq, flatT_flatten, flatV_flatten, ltL_app, ltL_flatT, ltL_flatV] <;> try first | omega | ((repeat' (first | exact And.intro rfl (by omega) | (refine And.intro ?_ ?_))) <;> first | rfl | omega | (congr 3; omega) | (congr 2; omega)), ?_, ?_, ?_, ?_, ?_⟩ <;> simp only [go_sem, simprocAttr, decide_eq_true_eq, flatT_flatten, flatV_flatten, ltL_app, ltL_flatT, ltL_flatV] <;> try first | omega | ((repeat' (first | exact And.intro rfl (by omega) | (refine And.intro ?_ ?_))) <;> first | rfl | omega | (congr 3; omega) | (congr 2; omega))
  · -- 6: [0, 1, 2]
    rintro ⟨iK, cK, rK, iI, cI, rI⟩ hd
    simp only [c10_P, c10_I] at hd ⊢
    refine ⟨fun h => (by cases h), ?_⟩
    simp only [allL, and_true]
    refine ⟨?_, ?_⟩
    · simp (implicitDefEqProofs := false) (disch := omega) only [go_sem, simprocAttr, go_sem, Nat.le_refl, encV_nil, encT_nil, Tryd.results38]
      refine ⟨9, (iK, cK, rK, iI, cI, rI), by kernel_rfl, trivial, ?_⟩
      simp only [c10_I]
      refine ⟨?_, by simp (disch := omega) only [tok_T, tok_F, toks_T, toks_F, ob_T, ob_F, obs_T, obs_F, Bool.true_and, Bool.and_eq_true, go_sem, simprocAttr, decide_eq_true_eq, flatT_flatten, flatV_flatten, ltL_app, ltL_flatT, ltL_flatV] <;> try first | omega | ((repeat' (first | exact And.intro rfl (by omega) | (refine And.intro ?_ ?_))) <;> first | rfl | omega | (congr 3; omega) | (congr 2; omega)), ?_, ?_, ?_, ?_, ?_⟩ <;> simp only [go_sem, simprocAttr, decide_eq_true_eq, flatT_flatten, flatV_flatten, ltL_app, ltL_flatT, ltL_flatV] <;> try first | omega | ((repeat' (first | exact And.intro rfl (by omega) | (refine And.intro ?_ ?_))) <;> first | rfl | omega | (congr 3; omega) | (congr 2; omega))
    · simp (implicitDefEqProofs := false) (disch := omega) only [go_sem, simprocAttr, go_sem, Nat.le_refl, encV_nil, encT_nil, Tryd.results38]
      refine ⟨10, (iK, cK, rK, iI, cI, rI), by kernel_rfl, trivial, ?_⟩
      simp only [c10_I]
      refine ⟨?_, by simp (disch := omega) only [tok_T, tok_F, toks_T, toks_F, ob_T, ob_F, obs_T, obs_F, Bool.true_and, Bool.and_eq_true, go_sem, simprocAttr, decide_eq_true_eq, flatT_flatten, flatV_flatten, ltL_app, ltL_flatT, ltL_flatV] <;> try first | omega | ((repeat' (first | exact And.intro rfl (by omega) | (refine And.intro ?_ ?_))) <;> first | rfl | omega | (congr 3; omega) | (congr 2; omega)), ?_, ?_, ?_, ?_, ?_⟩ <;> simp only [go_sem, simprocAttr, decide_eq_true_eq, flatT_flatten, flatV_flatten, ltL_app, ltL_flatT, ltL_flatV] <;> try first | omega | ((repeat' (first | exact And.intro rfl (by omega) | (refine And.intro ?_ ?_))) <;> first | rfl | omega | (congr 3; omega) | (congr 2; omega))
  · -- 7: [0, 1, 3]
    rintro ⟨iK, cK, rK, iI, cI, rI⟩ hd
    simp only [c10_P, c10_I] at hd ⊢
    refine ⟨fun h => (by cases h), ?_⟩
    simp only [allL, and_true]
    refine ⟨?_, ?_⟩
    · simp (implicitDefEqProofs := false) (disch := omega) only [go_sem, simprocAttr, go_sem, Nat.le_refl, encV_nil, encT_nil, Tryd.results38]
      with_reducible refine CallOk.of cloneT_nil rfl ?_
      simp (implicitDefEqProofs := false) (disch := omega) only [go_sem, simprocAttr, go_sem, Nat.le_refl, encV_nil, encT_nil, Tryd.results38]
      refine ⟨9, (iK, cK, rK, iI, cI, rI), by kernel_rfl, trivial, ?_⟩
      simp only [c10_I]
      refine ⟨?_, by simp (disch := omega) only [tok_T, tok_F, toks_T, toks_F, ob_T, ob_F, obs_T, obs_F, Bool.true_and, Bool.and_eq_true, go_sem, simprocAttr, decide_eq_true_eq, flatT_flatten, flatV_flatten, ltL_app, ltL_flatT, ltL_flatV] <;> try first | omega | ((repeat' (first | exact And.intro rfl (by omega) | (refine And.intro ?_ ?_))) <;> first | rfl | omega | (congr 3; omega) | (congr 2; omega)), ?_, ?_, ?_, ?_, ?_⟩ <;> simp only [go_sem, simprocAttr, decide_eq_true_eq, flatT_flatten, flatV_flatten, ltL_app, ltL_flatT, ltL_flatV] <;> try first | omega | ((repeat' (first | exact And.intro rfl (by omega) | (refine And.intro ?_ ?_))) <;> first | rfl | omega | (congr 3; omega) | (congr 2; omega))
    · simp (implicitDefEqProofs := false) (disch := omega) only [go_sem, simprocAttr, go_sem, Nat.le_refl, encV_nil, encT_nil, Tryd.results38]
      refine ⟨11, (iK, cK, rK, iI, cI, rI), by kernel_rfl, trivial, ?_⟩
      simp only [c10_I]
      refine ⟨?_, by simp (disch := omega) only [tok_T, tok_F, toks_T, toks_F, ob_T, ob_F, obs_T, obs_F, Bool.true_and, Bool.and_eq_true, go_sem, simprocAttr, decide_eq_true_eq, flatT_flatten, flatV_flatten, ltL_app, ltL_flatT, ltL_flatV] <;> try first | omega | ((repeat' (first | exact And.intro rfl (by omega) | (refine And.intro ?_ ?_))) <;> first | rfl | omega | (congr 3; omega) | (congr 2; omega)), ?_, ?_, ?_, ?_, ?_⟩ <;> simp only [go_sem, simprocAttr, decide_eq_true_eq, flatT_flatten, flatV_flatten, ltL_app, ltL_flatT, ltL_flatV] <;> try first | omega | ((repeat' (first | exact And.intro rfl (by omega) | (refine And.intro ?_ ?_))) <;> first | rfl | omega | (congr 3; omega) | (congr 2; omega))
  · -- 8: [0, 3, 4]
    rintro ⟨iK, cK, rK, iI, cI, rI⟩ hd
    simp only [c10_P, c10_I] at hd ⊢
    refine ⟨fun h => (by cases h), ?_⟩
    simp only [allL, and_true]
    simp (implicitDefEqProofs := false) (disch := omega) only [go_sem, simprocAttr, go_sem, Nat.le_refl, encV_nil, encT_nil, Tryd.results38]
    refine ⟨11, (iK, cK, rK, iI, cI, rI), by kernel_rfl, trivial, ?_⟩
    simp only [c10_I]
    refine ⟨?_, by simp (disch := omega) only [tok_T, tok_F, toks_T, toks_F, ob_T, ob_F, obs_T, obs_F, Bool.true_and, Bool.and_eq_true, go_sem, simprocAttr, decide_eq_true_eq, flatT_flatten, flatV_flatten, ltL_app, ltL_flatT, ltL_flatV] <;> try first | omega | ((repeat' (first | exact And.intro rfl (by omega) | (refine And.intro ?_ ?_))) <;> first | rfl | omega | (congr 3; omega) | (congr 2; omega)), ?_, ?_, ?_, ?_, ?_⟩ <;> simp only [go_sem, simprocAttr, decide_eq_true_eq, flatT_flatten, flatV_flatten, ltL_app, ltL_flatT, ltL_flatV] <;> try first | omega | ((repeat' (first | exact And.intro rfl (by omega) | (refine And.intro ?_ ?_))) <;> first | rfl | omega | (congr 3; omega) | (congr 2; omega))
  · -- 9: [0, 1, 2, 3]
    rintro ⟨iK, cK, rK, iI, cI, rI⟩ hd
    simp only [c10_P, c10_I] at hd ⊢
    refine ⟨fun h => (by cases h), ?_⟩
    simp only [allL, and_true]
    refine ⟨?_, ?_⟩
    · simp (implicitDefEqProofs := false) (disch := omega) only [go_sem, simprocAttr, go_sem, Nat.le_refl, encV_nil, encT_nil, Tryd.results38]
      refine ⟨12, (iK, cK, rK, iI, cI, rI), by kernel_rfl, trivial, ?_⟩
      simp only [c10_I]
      refine ⟨?_, by simp (disch := omega) only [tok_T, tok_F, toks_T, toks_F, ob_T, ob_F, obs_T, obs_F, Bool.true_and, Bool.and_eq_true, go_sem, simprocAttr, decide_eq_true_eq, flatT_flatten, flatV_flatten, ltL_app, ltL_flatT, ltL_flatV] <;> try first | omega | ((repeat' (first | exact And.intro rfl (by omega) | (refine And.intro ?_ ?_))) <;> first | rfl | omega | (congr 3; omega) | (congr 2; omega)), ?_, ?_, ?_, ?_, ?_⟩ <;> simp only [go_sem, simprocAttr, decide_eq_true_eq, flatT_flatten, flatV_flatten, ltL_app, ltL_flatT, ltL_flatV] <;> try first | omega | ((repeat' (first | exact And.intro rfl (by omega) | (refine And.intro ?_ ?_))) <;> first | rfl | omega | (congr 3; omega) | (congr 2; omega))
    · simp (implicitDefEqProofs := false) (disch := omega) only [go_sem, simprocAttr, go_sem, Nat.le_refl, encV_nil, encT_nil, Tryd.results38]
      refine ⟨13, (iK, cK, rK, iI, cI, rI), by kernel_rfl, trivial, ?_⟩
      simp only [c10_I]
      refine ⟨?_, by simp (disch := omega) only [tok_T, tok_F, toks_T, toks_F, ob_T, ob_F, obs_T, obs_F, Bool.true_and, Bool.and_eq_true, go_sem, simprocAttr, decide_eq_true_eq, flatT_flatten, flatV_flatten, ltL_app, ltL_flatT, ltL_flatV] <;> try first | omega | ((repeat' (first | exact And.intro rfl (by omega) | (refine And.intro ?_ ?_))) <;> first | rfl | omega | (congr 3; omega) | (congr 2; omega)), ?_, ?_, ?_, ?_, ?_⟩ <;> simp only [go_sem, simprocAttr, decide_eq_true_eq, flatT_flatten, flatV_flatten, ltL_app, ltL_flatT, ltL_flatV] <;> try first | omega | ((repeat' (first | exact And.intro rfl (by omega) | (refine And.intro ?_ ?_))) <;> first | rfl | omega | (congr 3; omega) | (congr 2; omega))
  · -- 10: [0, 1, 2, 6]
    rintro ⟨iK, cK, rK, iI, cI, rI⟩ hd
    simp only [c10_P, c10_I] at hd ⊢
    refine ⟨fun h => (by cases h), ?_⟩
    simp only [allL, and_true]
    simp (implicitDefEqProofs := false) (disch := omega) only [go_sem, simprocAttr, go_sem, Nat.le_refl, encV_nil, encT_nil, Tryd.results38]
    refine ⟨13, (iK, cK, rK, iI, cI, rI), by kernel_rfl, trivial, ?_⟩
    simp only [c10_I]
    refine ⟨?_, by simp (disch := omega) only [tok_T, tok_F, toks_T, toks_F, ob_T, ob_F, obs_T, obs_F, Bool.true_and, Bool.and_eq_true, go_sem, simprocAttr, decide_eq_true_eq, flatT_flatten, flatV_flatten, ltL_app, ltL_flatT, ltL_flatV] <;> try first | omega | ((repeat' (first | exact And.intro rfl (by omega) | (refine And.intro ?_ ?_))) <;> first | rfl | omega | (congr 3; omega) | (congr 2; omega)), ?_, ?_, ?_, ?_, ?_⟩ <;> simp only [go_sem, simprocAttr, decide_eq_true_eq, flatT_flatten, flatV_flatten, ltL_app, ltL_flatT, ltL_flatV] <;> try first | omega | ((repeat' (first | exact And.intro rfl (by omega) | (refine And.intro ?_ ?_))) <;> first | rfl | omega | (congr 3; omega) | (congr 2; omega))
  · -- 11: [0, 1, 3, 4]
    rintro ⟨iK, cK, rK, iI, cI, rI⟩ hd
    simp only [c10_P, c10_I] at hd ⊢
    refine ⟨fun h => (by cases h), ?_⟩
    simp only [allL, and_true]
    simp (implicitDefEqProofs := false) (disch := omega) only [go_sem, simprocAttr, go_sem, Nat.le_refl, encV_nil, encT_nil, Tryd.results38]
    with_reducible refine CallOk.of cloneT_nil rfl ?_
    simp (implicitDefEqProofs := false) (disch := omega) only [go_sem, simprocAttr, go_sem, Nat.le_refl, encV_nil, encT_nil, Tryd.results38]
    refine ⟨12, (iK, cK, rK, iI, cI, rI), by kernel_rfl, trivial, ?_⟩
    simp only [c10_I]
    refine ⟨?_, by simp (disch := omega) only [tok_T, tok_F, toks_T, toks_F, ob_T, ob_F, obs_T, obs_F, Bool.true_and, Bool.and_eq_true, go_sem, simprocAttr, decide_eq_true_eq, flatT_flatten, flatV_flatten, ltL_app, ltL_flatT, ltL_flatV] <;> try first | omega | ((repeat' (first | exact And.intro rfl (by omega) | (refine And.intro ?_ ?_))) <;> first | rfl | omega | (congr 3; omega) | (congr 2; omega)), ?_, ?_, ?_, ?_, ?_⟩ <;> simp only [go_sem, simprocAttr, decide_eq_true_eq, flatT_flatten, flatV_flatten, ltL_app, ltL_flatT, ltL_flatV] <;> try first | omega | ((repeat' (first | exact And.intro rfl (by omega) | (refine And.intro ?_ ?_))) <;> first | rfl | omega | (congr 3; omega) | (congr 2; omega))
  · -- 12: [0, 1, 2, 3, 4]
    rintro ⟨iK, cK, rK, iI, cI, rI⟩ hd
    simp only [c10_P, c10_I] at hd ⊢
    refine ⟨fun h => (by cases h), ?_⟩
    simp only [allL, and_true]
    refine ⟨?_, ?_⟩
    · simp (implicitDefEqProofs := false) (disch := omega) only [go_sem, simprocAttr, go_sem, Nat.le_refl, encV_nil, encT_nil, Tryd.results38]
      refine CallOk.ofI (OkI.clone (st := ⟨[], _, _, _, _⟩) (by kernel_rfl) clV_rd rfl one_V (by decide) (encV (x :: xs)) (encV_all6 _) (by rw [encV_len]; simp) (by rw [encV_len]; simp only [List.length_cons]; omega)) rfl rfl rfl rfl ?_
      rintro r st1 ⟨cI, rI, q1, q2, q3, q4, rfl, rfl⟩
      rw [encV_len] at q1 q3
      simp (implicitDefEqProofs := false) (disch := omega) only [go_sem, simprocAttr, go_sem, Nat.le_refl, encV_nil, encT_nil, Tryd.results38]
      refine ⟨14, (iK, cK, rK, 10, cI, rI), by kernel_rfl, ⟨by simp only; omega, by simp only; omega, q1, q2, q3, q4⟩, ?_⟩
      simp only [c10_I]
      refine ⟨?_, by simp (disch := omega) only [tok_T, tok_F, toks_T, toks_F, ob_T, ob_F, obs_T, obs_F, Bool.true_and, Bool.and_eq_true, go_sem, simprocAttr, decide_eq_true_eq, flatT_flatten, flatV_flatten, q4, ltL_app, ltL_flatT, ltL_flatV] <;> try first | omega | ((repeat' (first | exact And.intro rfl (by omega) | (refine And.intro ?_ ?_))) <;> first | rfl | omega | (congr 3; omega) | (congr 2; omega)), ?_, ?_, ?_, ?_, ?_⟩ <;> simp only [go_sem, simprocAttr, decide_eq_true_eq, flatT_flatten, flatV_flatten, q4, ltL_app, ltL_flatT, ltL_flatV] <;> try first | omega | ((repeat' (first | exact And.intro rfl (by omega) | (refine And.intro ?_ ?_))) <;> first | rfl | omega | (congr 3; omega) | (congr 2; omega))
    · simp (implicitDefEqProofs := false) (disch := omega) only [go_sem, simprocAttr, go_sem, Nat.le_refl, encV_nil, encT_nil, Tryd.results38]
      refine ⟨15, (iK, cK, rK, iI, cI, rI), by kernel_rfl, trivial, ?_⟩
      simp only [c10_I]
      refine ⟨?_, by simp (disch := omega) only [tok_T, tok_F, toks_T, toks_F, ob_T, ob_F, obs_T, obs_F, Bool.true_and, Bool.and_eq_true, go_sem, simprocAttr, decide_eq_true_eq, flatT_flatten, flatV_flatten, ltL_app, ltL_flatT, ltL_flatV] <;> try first | omega | ((repeat' (first | exact And.intro rfl (by omega) | (refine And.intro ?_ ?_))) <;> first | rfl | omega | (congr 3; omega) | (congr 2; omega)), ?_, ?_, ?_, ?_, ?_⟩ <;> simp only [go_sem, simprocAttr, decide_eq_true_eq, flatT_flatten, flatV_flatten, ltL_app, ltL_flatT, ltL_flatV] <;> try first | omega | ((repeat' (first | exact And.intro rfl (by omega) | (refine And.intro ?_ ?_))) <;> first | rfl | omega | (congr 3; omega) | (congr 2; omega))
  · -- 13: [0, 1, 2, 3, 6]
    rintro ⟨iK, cK, rK, iI, cI, rI⟩ hd
    simp only [c10_P, c10_I] at hd ⊢
    refine ⟨fun h => (by cases h), ?_⟩
    simp only [allL, and_true]
    simp (implicitDefEqProofs := false) (disch := omega) only [go_sem, simprocAttr, go_sem, Nat.le_refl, encV_nil, encT_nil, Tryd.results38]
    refine ⟨15, (iK, cK, rK, iI, cI, rI), by kernel_rfl, trivial, ?_⟩
    simp only [c10_I]
    refine ⟨?_, by simp (disch := omega) only [tok_T, tok_F, toks_T, toks_F, ob_T, ob_F, obs_T, obs_F, Bool.true_and, Bool.and_eq_true, go_sem, simprocAttr, decide_eq_true_eq, flatT_flatten, flatV_flatten, ltL_app, ltL_flatT, ltL_flatV] <;> try first | omega | ((repeat' (first | exact And.intro rfl (by omega) | (refine And.intro ?_ ?_))) <;> first | rfl | omega | (congr 3; omega) | (congr 2; omega)), ?_, ?_, ?_, ?_, ?_⟩ <;> simp only [go_sem, simprocAttr, decide_eq_true_eq, flatT_flatten, flatV_flatten, ltL_app, ltL_flatT, ltL_flatV] <;> try first | omega | ((repeat' (first | exact And.intro rfl (by omega) | (refine And.intro ?_ ?_))) <;> first | rfl | omega | (congr 3; omega) | (congr 2; omega))
  · -- 14: [0, 1, 2, 3, 4, 5]
    rintro ⟨iK, cK, rK, iI, cI, rI⟩ hd
    simp only [c10_P, c10_I] at hd ⊢
    obtain ⟨i1, i2, i3, i4, i5, i6⟩ := hd
    refine ⟨fun h => (by cases h), ?_⟩
    simp only [allL, and_true]
    simp (implicitDefEqProofs := false) (disch := omega) only [go_sem, simprocAttr, go_sem, Nat.le_refl, encV_nil, encT_nil, Tryd.results38]
    refine ⟨16, (iK, cK, rK, iI, cI, rI), by kernel_rfl, ⟨i1, by simp only; omega, i3, i4, i5, i6⟩, ?_⟩
    simp only [c10_I]
    refine ⟨?_, by simp (disch := omega) only [tok_T, tok_F, toks_T, toks_F, ob_T, ob_F, obs_T, obs_F, Bool.true_and, Bool.and_eq_true, go_sem, simprocAttr, decide_eq_true_eq, flatT_flatten, flatV_flatten, i6, ltL_app, ltL_flatT, ltL_flatV] <;> try first | omega | ((repeat' (first | exact And.intro rfl (by omega) | (refine And.intro ?_ ?_))) <;> first | rfl | omega | (congr 3; omega) | (congr 2; omega)), ?_, ?_, ?_, ?_, ?_⟩ <;> simp only [go_sem, simprocAttr, decide_eq_true_eq, flatT_flatten, flatV_flatten, i6, ltL_app, ltL_flatT, ltL_flatV] <;> try first | omega | ((repeat' (first | exact And.intro rfl (by omega) | (refine And.intro ?_ ?_))) <;> first | rfl | omega | (congr 3; omega) | (congr 2; omega))
  · -- 15: [0, 1, 2, 3, 4, 6]
    rintro ⟨iK, cK, rK, iI, cI, rI⟩ hd
    simp only [c10_P, c10_I] at hd ⊢
    refine ⟨fun h => (by cases h), ?_⟩
    simp only [allL, and_true]
    simp (implicitDefEqProofs := false) (disch := omega) only [go_sem, simprocAttr, go_sem, Nat.le_refl, encV_nil, encT_nil, Tryd.results38]
    refine CallOk.ofI (OkI.clone (st := ⟨[], _, _, _, _⟩) (by kernel_rfl) clV_rd rfl one_V (by decide) (encV (x :: xs)) (encV_all6 _) (by rw [encV_len]; simp) (by rw [encV_len]; simp only [List.length_cons]; omega)) rfl rfl rfl rfl ?_
    rintro r st1 ⟨cI, rI, q1, q2, q3, q4, rfl, rfl⟩
    rw [encV_len] at q1 q3
    simp (implicitDefEqProofs := false) (disch := omega) only [go_sem, simprocAttr, go_sem, Nat.le_refl, encV_nil, encT_nil, Tryd.results38]
    refine ⟨16, (iK, cK, rK, 11, cI, rI), by kernel_rfl, ⟨by simp only; omega, by simp only; omega, q1, q2, q3, q4⟩, ?_⟩
    simp only [c10_I]
    refine ⟨?_, by simp (disch := omega) only [tok_T, tok_F, toks_T, toks_F, ob_T, ob_F, obs_T, obs_F, Bool.true_and, Bool.and_eq_true, go_sem, simprocAttr, decide_eq_true_eq, flatT_flatten, flatV_flatten, q4, ltL_app, ltL_flatT, ltL_flatV] <;> try first | omega | ((repeat' (first | exact And.intro rfl (by omega) | (refine And.intro ?_ ?_))) <;> first | rfl | omega | (congr 3; omega) | (congr 2; omega)), ?_, ?_, ?_, ?_, ?_⟩ <;> simp only [go_sem, simprocAttr, decide_eq_true_eq, flatT_flatten, flatV_flatten, q4, ltL_app, ltL_flatT, ltL_flatV] <;> try first | omega | ((repeat' (first | exact And.intro rfl (by omega) | (refine And.intro ?_ ?_))) <;> first | rfl | omega | (congr 3; omega) | (congr 2; omega))
  · -- 16: [0, 1, 2, 3, 4, 5, 6]
    rintro ⟨iK, cK, rK, iI, cI, rI⟩ hd
    simp only [c10_P, c10_I] at hd ⊢
    obtain ⟨i1, i2, i3, i4, i5, i6⟩ := hd
    refine ⟨fun h => (by cases h), ?_⟩
    simp only [allL, and_true]
    simp (implicitDefEqProofs := false) (disch := omega) only [go_sem, simprocAttr, go_sem, Nat.le_refl, encV_nil, encT_nil, Tryd.results38]
    refine ⟨17, (iK, cK, rK, iI, cI, rI), by kernel_rfl, ⟨i1, by simp only; omega, i3, i4, i5, i6⟩, ?_⟩
    simp only [c10_I]
    refine ⟨?_, by simp (disch := omega) only [tok_T, tok_F, toks_T, toks_F, ob_T, ob_F, obs_T, obs_F, Bool.true_and, Bool.and_eq_true, go_sem, simprocAttr, decide_eq_true_eq, flatT_flatten, flatV_flatten, i6, ltL_app, ltL_flatT, ltL_flatV] <;> try first | omega | ((repeat' (first | exact And.intro rfl (by omega) | (refine And.intro ?_ ?_))) <;> first | rfl | omega | (congr 3; omega) | (congr 2; omega)), ?_, ?_, ?_, ?_, ?_⟩ <;> simp only [go_sem, simprocAttr, decide_eq_true_eq, flatT_flatten, flatV_flatten, i6, ltL_app, ltL_flatT, ltL_flatV] <;> try first | omega | ((repeat' (first | exact And.intro rfl (by omega) | (refine And.intro ?_ ?_))) <;> first | rfl | omega | (congr 3; omega) | (congr 2; omega))
  · -- 17: [0, 1, 2, 3, 4, 5, 6, 7]
    rintro ⟨iK, cK, rK, iI, cI, rI⟩ hd
    simp only [c10_P, c10_I] at hd ⊢
    obtain ⟨i1, i2, i3, i4, i5, i6⟩ := hd
    refine ⟨fun h => (by cases h), ?_⟩
    simp only [allL, and_true]
    simp (implicitDefEqProofs := false) (disch := omega) only [go_sem, simprocAttr, go_sem, Nat.le_refl, encV_nil, encT_nil, Tryd.results38]
    refine ⟨18, (iK, cK, rK, iI, cI, rI), by kernel_rfl, ⟨i1, by simp only; omega, i3, i4, i5, i6⟩, ?_⟩
    simp only [c10_I]
    refine ⟨?_, by simp (disch := omega) only [tok_T, tok_F, toks_T, toks_F, ob_T, ob_F, obs_T, obs_F, Bool.true_and, Bool.and_eq_true, go_sem, simprocAttr, decide_eq_true_eq, flatT_flatten, flatV_flatten, i6, ltL_app, ltL_flatT, ltL_flatV] <;> try first | omega | ((repeat' (first | exact And.intro rfl (by omega) | (refine And.intro ?_ ?_))) <;> first | rfl | omega | (congr 3; omega) | (congr 2; omega)), ?_, ?_, ?_, ?_, ?_⟩ <;> simp only [go_sem, simprocAttr, decide_eq_true_eq, flatT_flatten, flatV_flatten, i6, ltL_app, ltL_flatT, ltL_flatV] <;> try first | omega | ((repeat' (first | exact And.intro rfl (by omega) | (refine And.intro ?_ ?_))) <;> first | rfl | omega | (congr 3; omega) | (congr 2; omega))
  · -- 18: [0, 1, 2, 3, 4, 5, 6, 7, 8]
    rintro ⟨iK, cK, rK, iI, cI, rI⟩ hd
    simp only [c10_P, c10_I] at hd ⊢
    obtain ⟨i1, i2, i3, i4, i5, i6⟩ := hd
    refine ⟨fun h => (by cases h), ?_⟩
    simp only [allL, and_true]
    simp (implicitDefEqProofs := false) (disch := omega) only [go_sem, simprocAttr, go_sem, Nat.le_refl, encV_nil, encT_nil, Tryd.results38]
    refine ⟨19, (iK, cK, rK, iI, cI, rI), by kernel_rfl, ⟨i1, by simp only; omega, i3, i4, i5, i6⟩, ?_⟩
    simp only [c10_I]
    refine ⟨?_, by simp (disch := omega) only [tok_T, tok_F, toks_T, toks_F, ob_T, ob_F, obs_T, obs_F, Bool.true_and, Bool.and_eq_true, go_sem, simprocAttr, decide_eq_true_eq, flatT_flatten, flatV_flatten, i6, ltL_app, ltL_flatT, ltL_flatV] <;> try first | omega | ((repeat' (first | exact And.intro rfl (by omega) | (refine And.intro ?_ ?_))) <;> first | rfl | omega | (congr 3; omega) | (congr 2; omega)), ?_, ?_, ?_, ?_, ?_⟩ <;> simp only [go_sem, simprocAttr, decide_eq_true_eq, flatT_flatten, flatV_flatten, i6, ltL_app, ltL_flatT, ltL_flatV] <;> try first | omega | ((repeat' (first | exact And.intro rfl (by omega) | (refine And.intro ?_ ?_))) <;> first | rfl | omega | (congr 3; omega) | (congr 2; omega))
  · -- 19: [0, 1, 2, 3, 4, 5, 6, 7, 8, 9]
    rintro ⟨iK, cK, rK, iI, cI, rI⟩ hd
    simp only [c10_P, c10_I] at hd ⊢
    obtain ⟨i1, i2, i3, i4, i5, i6⟩ := hd
    refine ⟨fun _ => ?_, trivial⟩
    simp (implicitDefEqProofs := false) (disch := omega) only [go_sem, simprocAttr, go_sem, Nat.le_refl, encV_nil, encT_nil, Tryd.results38]
    refine p_loop (ι := { i : Nat // i ≤ xs.length + 1 }) (fun p => ⟨[(17, vI p.1), (16, vI (xs.length + 1 : Nat)), (3, .ptr 3 0), (2, .ptr 1 0)], [(iI, .box 32 (flatV (x :: xs) ++ rI)), (3, .box 32 [vI k, vB b, vI n, vS s, .ms iI 0 (xs.length + 1) cI, .sl []]), (1, .box 32 [vI 0, vB false, vI 0, vS ByteArray.empty, vNil, vNil])], [], 16, 15⟩) (fun p => xs.length + 1 - p.1) ⟨0, Nat.zero_le _⟩ ?_ ?_
    · refine ⟨?_, by simp (disch := omega) only [tok_T, tok_F, toks_T, toks_F, ob_T, ob_F, obs_T, obs_F, Bool.true_and, Bool.and_eq_true, go_sem, simprocAttr, decide_eq_true_eq, Int.natCast_zero, i6, ltL_app, ltL_flatT, ltL_flatV] <;> try first | omega | ((repeat' (first | exact And.intro rfl (by omega) | (refine And.intro ?_ ?_))) <;> first | rfl | omega | (congr 3; omega) | (congr 2; omega)), ?_, ?_, ?_, ?_, ?_⟩ <;> simp only [go_sem, simprocAttr, decide_eq_true_eq, Int.natCast_zero, i6, ltL_app, ltL_flatT, ltL_flatV] <;> try first | omega | ((repeat' (first | exact And.intro rfl (by omega) | (refine And.intro ?_ ?_))) <;> first | rfl | omega | (congr 3; omega) | (congr 2; omega))
    rintro ⟨i, hi⟩
    simp only at hi ⊢
    by_cases hlt : i < xs.length + 1
    · obtain ⟨g1, g2, g3⟩ := flatV_at (l := x :: xs) (r := rI) (i := i) (by simpa using hlt)
      simp (implicitDefEqProofs := false) (disch := omega) only [go_sem, simprocAttr, go_sem, Nat.le_refl, encV_nil, encT_nil, Tryd.results38, g1, g2, g3]
      with_reducible refine CallOk.of (hsub _ (getD_mem (d := default) (by simpa using hlt))) rfl ?_
      simp (implicitDefEqProofs := false) (disch := omega) only [go_sem, simprocAttr, go_sem, Nat.le_refl, encV_nil, encT_nil, Tryd.results38, g1, g2, g3]
      refine ⟨⟨i + 1, hlt⟩, by simp only; omega, ?_⟩
      refine ⟨?_, by simp (disch := omega) only [tok_T, tok_F, toks_T, toks_F, ob_T, ob_F, obs_T, obs_F, Bool.true_and, Bool.and_eq_true, go_sem, simprocAttr, decide_eq_true_eq, Int.natCast_add, Int.natCast_one, i6, ltL_app, ltL_flatT, ltL_flatV] <;> try first | omega | ((repeat' (first | exact And.intro rfl (by omega) | (refine And.intro ?_ ?_))) <;> first | rfl | omega | (congr 3; omega) | (congr 2; omega)), ?_, ?_, ?_, ?_, ?_⟩ <;> simp only [go_sem, simprocAttr, decide_eq_true_eq, Int.natCast_add, Int.natCast_one, i6, ltL_app, ltL_flatT, ltL_flatV] <;> try first | omega | ((repeat' (first | exact And.intro rfl (by omega) | (refine And.intro ?_ ?_))) <;> first | rfl | omega | (congr 3; omega) | (congr 2; omega))
    · simp (implicitDefEqProofs := false) (disch := omega) only [go_sem, simprocAttr, go_sem, Nat.le_refl, encV_nil, encT_nil, Tryd.results38]
      refine ⟨⟨[], [(iI, .box 32 (flatV (x :: xs) ++ rI))], [], 16, 15⟩, ⟨iI, cI, rI, 2, 0, [], 16, 15, by omega, by omega, by omega, i3, i4, Nat.le_refl _, Nat.zero_le _, i5, rfl, i6, fun _ _ => rfl, rfl, rfl⟩, ?_⟩
      refine ⟨?_, by simp (disch := omega) only [tok_T, tok_F, toks_T, toks_F, ob_T, ob_F, obs_T, obs_F, Bool.true_and, Bool.and_eq_true, go_sem, simprocAttr, decide_eq_true_eq, i6, ltL_app, ltL_flatT, ltL_flatV, decide_eq_true i2] <;> try first | omega | ((repeat' (first | exact And.intro rfl (by omega) | (refine And.intro ?_ ?_))) <;> first | rfl | omega | (congr 3; omega) | (congr 2; omega)), ?_, ?_, ?_, ?_, ?_⟩ <;> simp only [go_sem, simprocAttr, decide_eq_true_eq, i6, ltL_app, ltL_flatT, ltL_flatV, decide_eq_true i2] <;> try first | omega | ((repeat' (first | exact And.intro rfl (by omega) | (refine And.intro ?_ ?_))) <;> first | rfl | omega | (congr 3; omega) | (congr 2; omega))
end Go.Proofs.YtahgjolokkfhjaaDoor
