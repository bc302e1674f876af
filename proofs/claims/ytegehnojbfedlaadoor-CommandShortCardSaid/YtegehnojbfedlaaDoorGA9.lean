import Derived.Test.YtegehnojbfedlaaDoorGA7
/-
  Chapter 25: names, blanks, pieces: the program's and the document's.
-/
open Go Go.Proofs Go.Pw Go.RowKit
namespace Go.Proofs.YtegehnojbfedlaaDoor
set_option maxRecDepth 4000
set_option linter.unusedVariables false
set_option linter.unusedSimpArgs false
theorem tw_ix {p : UInt8 → Bool} : ∀ {l : List UInt8} {n : Nat}, n ≤ l.length → (∀ j, j < n → ∀ b, l[j]? = some b → p b = true) → (∀ b, l[n]? = some b → p b = false) → l.takeWhile p = l.take n ∧ l.dropWhile p = l.drop n
  | [], n, h, _, _ => by
    have : n = 0 := by simpa using h
    subst this; exact ⟨rfl, rfl⟩
  | b :: r, 0, _, _, h2 => by
    have := h2 b rfl
    simp [this]
  | b :: r, n + 1, h, h1, h2 => by
    have hb := h1 0 (by omega) b rfl
    have ih := tw_ix (p := p) (l := r) (n := n) (by simpa using h) (fun j hj c hc => h1 (j + 1) (by omega) c (by simpa using hc)) (fun c hc => h2 c (by simpa using hc))
    simp [hb, ih.1, ih.2]
/-- A letter; what a word goes on with. -/
def ltrI (x : Int) : Prop := (97 ≤ x ∧ x ≤ 122) ∨ (65 ≤ x ∧ x ≤ 90)
def goI (x : Int) : Prop := ltrI x ∨ (48 ≤ x ∧ x ≤ 57) ∨ x = 95
instance (x : Int) : Decidable (ltrI x) := by unfold ltrI; infer_instance
instance (x : Int) : Decidable (goI x) := by unfold goI; infer_instance
def ltrB (b : UInt8) : Bool := decide (ltrI b.toNat)
def goB (b : UInt8) : Bool := decide (goI b.toNat)
def nameL : List UInt8 → Bool
  | [] => false
  | b :: r => ltrB b && r.all goB
def okc (i : Nat) (x : Int) : Prop := ltrI x ∨ (i ≠ 0 ∧ ((48 ≤ x ∧ x ≤ 57) ∨ x = 95))
theorem rngs (x : Int) : x < 48 ∨ (48 ≤ x ∧ x ≤ 57) ∨ (58 ≤ x ∧ x ≤ 64) ∨ (65 ≤ x ∧ x ≤ 90) ∨ (91 ≤ x ∧ x ≤ 94) ∨ x = 95 ∨ x = 96 ∨ (97 ≤ x ∧ x ≤ 122) ∨ 123 ≤ x := by omega
theorem nameL_ok : ∀ {l : List UInt8}, nameL l = true ↔ l ≠ [] ∧ ∀ j : Nat, ∀ b, l[j]? = some b → okc j b.toNat
  | [] => by simp [nameL]
  | b :: r => by
    simp only [nameL, Bool.and_eq_true, List.all_eq_true, ltrB, goB, decide_eq_true_eq]
    constructor
    · rintro ⟨h1, h2⟩
      refine ⟨by simp, fun j c hc => ?_⟩
      cases j with
      | zero => simp at hc; subst hc; exact .inl h1
      | succ j =>
        have := h2 c (List.mem_of_getElem? (by simpa using hc))
        rcases this with h | h
        · exact .inl h
        · exact .inr ⟨by omega, h⟩
    · rintro ⟨_, h⟩
      refine ⟨?_, fun c hc => ?_⟩
      · rcases h 0 b rfl with h | h
        · exact h
        · exact absurd rfl h.1
      · obtain ⟨j, hj⟩ := List.mem_iff_getElem?.1 hc
        rcases h (j + 1) c (by simpa using hj) with h | h
        · exact .inl h
        · exact .inr h.2
set_option maxHeartbeats 4000000 in
theorem isName_ok (l : List UInt8) (hl : l.length ≤ 1000000) : Ok Tryd.prog 29 [vS (bA l)] (vB (nameL l)) := by
  refine Ok.of_pwp (by kernel_rfl) Tryd.func29 rfl (by kernel_rfl) (by kernel_rfl) ?_
  obtain ⟨nm, hn⟩ : ∃ nm, nameL l = nm := ⟨_, rfl⟩
  simp (implicitDefEqProofs := false) (disch := omega) only [go_sem, simprocAttr, go_sem, Nat.le_refl, Int.toNat_natCast, Int.toNat_zero, Int.toNat_one, str_eq, sz_bA, tl_bA, Tryd.results29, hn]
  refine p_loop (ι := { i : Nat // i ≤ l.length ∧ ∀ j, j < i → ∀ b, l[j]? = some b → okc j b.toNat }) (fun i => ⟨[(7, vI i.1), (6, vI l.length), (0, vS (bA l))], [], [], 0, 0⟩) (fun i => l.length - i.1) ⟨0, Nat.zero_le _, fun j h => by omega⟩ ?_ ?_
  · refine ⟨?_, ?_, ?_, ?_, ?_, ?_, ?_⟩ <;> simp only [go_sem, simprocAttr, decide_eq_true_eq, Int.natCast_zero] <;> try first | omega | ((repeat' (first | exact And.intro rfl (by omega) | (refine And.intro ?_ ?_))) <;> first | rfl | omega | (congr 3; omega) | (congr 2; omega))
  · rintro ⟨i, h1, h2⟩
    simp only
    by_cases hi : i < l.length
    · obtain ⟨b, hb⟩ : ∃ b, l[i]? = some b := ⟨_, List.getElem?_eq_getElem hi⟩
      have eb := bA_bt hb
      have step : okc i b.toNat → ∀ j, j < i + 1 → ∀ c, l[j]? = some c → okc j c.toNat := fun ho j hj c hc => by
        by_cases e : j = i
        · subst e; rw [hb] at hc; cases hc; exact ho
        · exact h2 j (by omega) c hc
      have bad : ¬ okc i b.toNat → nm = false := fun ho => by
        rw [← hn]
        apply Bool.eq_false_iff.2
        intro k
        exact ho ((nameL_ok.1 k).2 i b hb)
      generalize (b.toNat : Int) = x at *
      by_cases hi0 : i = 0
      · subst hi0
        have eb0 : bt (bA l) 0 = x := eb
        rcases rngs x with h | h | h | h | h | h | h | h | h <;> first
          | (have ho : okc 0 x := (by unfold okc ltrI; omega)
             simp (implicitDefEqProofs := false) (disch := omega) only [go_sem, simprocAttr, go_sem, Nat.le_refl, Int.toNat_natCast, Int.toNat_zero, Int.toNat_one, str_eq, sz_bA, tl_bA, Tryd.results29, hn, eb0, Int.natCast_zero]
             refine ⟨⟨0 + 1, hi, step ho⟩, by simp only; omega, ?_⟩
             refine ⟨?_, ?_, ?_, ?_, ?_, ?_, ?_⟩ <;> simp only [go_sem, simprocAttr, decide_eq_true_eq, Int.natCast_zero, Nat.zero_add] <;> try first | omega | ((repeat' (first | exact And.intro rfl (by omega) | (refine And.intro ?_ ?_))) <;> first | rfl | omega | (congr 3; omega) | (congr 2; omega))
            )
          | (have ho : ¬ okc 0 x := (by unfold okc ltrI; omega)
             have e := bad ho
             subst e
             simp (implicitDefEqProofs := false) (disch := omega) only [go_sem, simprocAttr, go_sem, Nat.le_refl, Int.toNat_natCast, Int.toNat_zero, Int.toNat_one, str_eq, sz_bA, tl_bA, Tryd.results29, hn, eb0, Int.natCast_zero]
             try omega
            )
      · rcases rngs x with h | h | h | h | h | h | h | h | h <;> first
          | (have ho : okc i x := (by unfold okc ltrI; omega)
             simp (implicitDefEqProofs := false) (disch := omega) only [go_sem, simprocAttr, go_sem, Nat.le_refl, Int.toNat_natCast, Int.toNat_zero, Int.toNat_one, str_eq, sz_bA, tl_bA, Tryd.results29, hn, eb]
             refine ⟨⟨i + 1, hi, step ho⟩, by simp only; omega, ?_⟩
             refine ⟨?_, ?_, ?_, ?_, ?_, ?_, ?_⟩ <;> simp only [go_sem, simprocAttr, decide_eq_true_eq, ] <;> try first | omega | ((repeat' (first | exact And.intro rfl (by omega) | (refine And.intro ?_ ?_))) <;> first | rfl | omega | (congr 3; omega) | (congr 2; omega))
            )
          | (have ho : ¬ okc i x := (by unfold okc ltrI; omega)
             have e := bad ho
             subst e
             simp (implicitDefEqProofs := false) (disch := omega) only [go_sem, simprocAttr, go_sem, Nat.le_refl, Int.toNat_natCast, Int.toNat_zero, Int.toNat_one, str_eq, sz_bA, tl_bA, Tryd.results29, hn, eb]
             try omega
            )
    · have hi' : i = l.length := by omega
      subst hi'
      have e : nm = !decide (l = []) := by
        rw [← hn]
        cases l with
        | nil => rfl
        | cons b r =>
          rw [nameL_ok.2 ⟨by simp, fun j c hc => h2 j (List.getElem?_eq_some_iff.1 hc).1 c hc⟩]
          rfl
      simp (implicitDefEqProofs := false) (disch := omega) only [go_sem, simprocAttr, go_sem, Nat.le_refl, Int.toNat_natCast, Int.toNat_zero, Int.toNat_one, str_eq, sz_bA, tl_bA, Tryd.results29, hn, e]
theorem dT {p : Prop} [Decidable p] (h : p) : PV.val (Value.bool (decide p)) = vB true := by rw [decide_eq_true h]
theorem dF {p : Prop} [Decidable p] (h : ¬ p) : PV.val (Value.bool (decide p)) = vB false := by rw [decide_eq_false h]
/-- A byte stands at a place. -/
def atI (S : List UInt8) (i : Nat) (p : Int → Prop) [DecidablePred p] : Bool := decide (i < S.length ∧ p (bt (bA S) i))
theorem atI_T {S : List UInt8} {i : Nat} {p : Int → Prop} [DecidablePred p] (h : i < S.length) (k : p (bt (bA S) i)) : atI S i p = true := decide_eq_true ⟨h, k⟩
theorem atI_F {S : List UInt8} {i : Nat} {p : Int → Prop} [DecidablePred p] (h : i < S.length → ¬ p (bt (bA S) i)) : atI S i p = false := decide_eq_false (fun k => h k.1 k.2)
theorem is_ok (S : List UInt8) (i : Nat) (c : Int) : Ok Tryd.prog 52 [vS (bA S), vI i, .val (.int .u8 c)] (vB (atI S i (· = c))) := by
  refine Ok.of_pwp (by kernel_rfl) Tryd.func52 rfl (by kernel_rfl) (by kernel_rfl) ?_
  by_cases h : i < S.length
  · by_cases k : bt (bA S) i = c
    · rw [atI_T h k]
      simp (implicitDefEqProofs := false) (disch := omega) only [go_sem, simprocAttr, go_sem, Nat.le_refl, Int.toNat_natCast, Int.toNat_zero, Int.toNat_one, str_eq, sz_bA, tl_bA, Tryd.results52]
      try (first | done | omega | exact dT (by omega) | exact dF (by omega))
    · rw [atI_F (fun _ => k)]
      simp (implicitDefEqProofs := false) (disch := omega) only [go_sem, simprocAttr, go_sem, Nat.le_refl, Int.toNat_natCast, Int.toNat_zero, Int.toNat_one, str_eq, sz_bA, tl_bA, Tryd.results52]
      (first | done | omega | exact dT (by omega) | exact dF (by omega))
    (first | done | omega | exact dT (by omega) | exact dF (by omega))
  · rw [atI_F (fun k => absurd k h)]
    simp (implicitDefEqProofs := false) (disch := omega) only [go_sem, simprocAttr, go_sem, Nat.le_refl, Int.toNat_natCast, Int.toNat_zero, Int.toNat_one, str_eq, sz_bA, tl_bA, Tryd.results52]
    try (first | done | omega | exact dT (by omega) | exact dF (by omega))
theorem letter_ok (S : List UInt8) (i : Nat) : Ok Tryd.prog 58 [vS (bA S), vI i] (vB (atI S i ltrI)) := by
  refine Ok.of_pwp (by kernel_rfl) Tryd.func58 rfl (by kernel_rfl) (by kernel_rfl) ?_
  by_cases h : i < S.length
  · rcases rngs (bt (bA S) i) with k | k | k | k | k | k | k | k | k <;> first
      | (rw [atI_T h (by unfold ltrI; omega)]
         simp (implicitDefEqProofs := false) (disch := omega) only [go_sem, simprocAttr, go_sem, Nat.le_refl, Int.toNat_natCast, Int.toNat_zero, Int.toNat_one, str_eq, sz_bA, tl_bA, Tryd.results58]
         try (first | done | omega | exact dT (by omega) | exact dF (by omega))
        )
      | (rw [atI_F (fun _ => by unfold ltrI; omega)]
         simp (implicitDefEqProofs := false) (disch := omega) only [go_sem, simprocAttr, go_sem, Nat.le_refl, Int.toNat_natCast, Int.toNat_zero, Int.toNat_one, str_eq, sz_bA, tl_bA, Tryd.results58]
         try (first | done | omega | exact dT (by omega) | exact dF (by omega))
        )
  · rw [atI_F (fun k => absurd k h)]
    simp (implicitDefEqProofs := false) (disch := omega) only [go_sem, simprocAttr, go_sem, Nat.le_refl, Int.toNat_natCast, Int.toNat_zero, Int.toNat_one, str_eq, sz_bA, tl_bA, Tryd.results58]
    try (first | done | omega | exact dT (by omega) | exact dF (by omega))
theorem digit_ok (S : List UInt8) (i : Nat) : Ok Tryd.prog 75 [vS (bA S), vI i] (vB (atI S i (fun x => 48 ≤ x ∧ x ≤ 57))) := by
  refine Ok.of_pwp (by kernel_rfl) Tryd.func75 rfl (by kernel_rfl) (by kernel_rfl) ?_
  by_cases h : i < S.length
  · rcases rngs (bt (bA S) i) with k | k | k | k | k | k | k | k | k <;> first
      | (rw [atI_T h (by omega)]
         simp (implicitDefEqProofs := false) (disch := omega) only [go_sem, simprocAttr, go_sem, Nat.le_refl, Int.toNat_natCast, Int.toNat_zero, Int.toNat_one, str_eq, sz_bA, tl_bA, Tryd.results75]
         try (first | done | omega | exact dT (by omega) | exact dF (by omega))
        )
      | (rw [atI_F (fun _ => by omega)]
         simp (implicitDefEqProofs := false) (disch := omega) only [go_sem, simprocAttr, go_sem, Nat.le_refl, Int.toNat_natCast, Int.toNat_zero, Int.toNat_one, str_eq, sz_bA, tl_bA, Tryd.results75]
         try (first | done | omega | exact dT (by omega) | exact dF (by omega))
        )
  · rw [atI_F (fun k => absurd k h)]
    simp (implicitDefEqProofs := false) (disch := omega) only [go_sem, simprocAttr, go_sem, Nat.le_refl, Int.toNat_natCast, Int.toNat_zero, Int.toNat_one, str_eq, sz_bA, tl_bA, Tryd.results75]
    try (first | done | omega | exact dT (by omega) | exact dF (by omega))
theorem goes_ok (S : List UInt8) (i : Nat) : Ok Tryd.prog 59 [vS (bA S), vI i] (vB (atI S i goI)) := by
  have c0 := letter_ok S i
  have c1 := digit_ok S i
  refine Ok.of_pwp (by kernel_rfl) Tryd.func59 rfl (by kernel_rfl) (by kernel_rfl) ?_
  by_cases h : i < S.length
  · rcases rngs (bt (bA S) i) with k | k | k | k | k | k | k | k | k <;> first
      | (rw [atI_T h (by unfold ltrI; omega)] at c0
         rw [atI_T h (by unfold goI ltrI; omega)]
         simp (implicitDefEqProofs := false) (disch := omega) only [go_sem, simprocAttr, go_sem, Nat.le_refl, Int.toNat_natCast, Int.toNat_zero, Int.toNat_one, str_eq, sz_bA, tl_bA, Tryd.results59]
         with_reducible refine CallOk.of c0 rfl ?_
         simp (implicitDefEqProofs := false) (disch := omega) only [go_sem, simprocAttr, go_sem, Nat.le_refl, Int.toNat_natCast, Int.toNat_zero, Int.toNat_one, str_eq, sz_bA, tl_bA, Tryd.results59]
         try (first | done | omega | exact dT (by omega) | exact dF (by omega))
        )
      | (rw [atI_F (fun _ => by unfold ltrI; omega)] at c0
         rw [atI_T h (by omega)] at c1
         rw [atI_T h (by unfold goI ltrI; omega)]
         simp (implicitDefEqProofs := false) (disch := omega) only [go_sem, simprocAttr, go_sem, Nat.le_refl, Int.toNat_natCast, Int.toNat_zero, Int.toNat_one, str_eq, sz_bA, tl_bA, Tryd.results59]
         with_reducible refine CallOk.of c0 rfl ?_
         simp (implicitDefEqProofs := false) (disch := omega) only [go_sem, simprocAttr, go_sem, Nat.le_refl, Int.toNat_natCast, Int.toNat_zero, Int.toNat_one, str_eq, sz_bA, tl_bA, Tryd.results59]
         with_reducible refine CallOk.of c1 rfl ?_
         simp (implicitDefEqProofs := false) (disch := omega) only [go_sem, simprocAttr, go_sem, Nat.le_refl, Int.toNat_natCast, Int.toNat_zero, Int.toNat_one, str_eq, sz_bA, tl_bA, Tryd.results59]
         try (first | done | omega | exact dT (by omega) | exact dF (by omega))
        )
      | (rw [atI_F (fun _ => by unfold ltrI; omega)] at c0
         rw [atI_F (fun _ => by omega)] at c1
         rw [atI_T h (by unfold goI ltrI; omega)]
         simp (implicitDefEqProofs := false) (disch := omega) only [go_sem, simprocAttr, go_sem, Nat.le_refl, Int.toNat_natCast, Int.toNat_zero, Int.toNat_one, str_eq, sz_bA, tl_bA, Tryd.results59]
         with_reducible refine CallOk.of c0 rfl ?_
         simp (implicitDefEqProofs := false) (disch := omega) only [go_sem, simprocAttr, go_sem, Nat.le_refl, Int.toNat_natCast, Int.toNat_zero, Int.toNat_one, str_eq, sz_bA, tl_bA, Tryd.results59]
         with_reducible refine CallOk.of c1 rfl ?_
         simp (implicitDefEqProofs := false) (disch := omega) only [go_sem, simprocAttr, go_sem, Nat.le_refl, Int.toNat_natCast, Int.toNat_zero, Int.toNat_one, str_eq, sz_bA, tl_bA, Tryd.results59]
         try (first | done | omega | exact dT (by omega) | exact dF (by omega))
        )
      | (rw [atI_F (fun _ => by unfold ltrI; omega)] at c0
         rw [atI_F (fun _ => by omega)] at c1
         rw [atI_F (fun _ => by unfold goI ltrI; omega)]
         simp (implicitDefEqProofs := false) (disch := omega) only [go_sem, simprocAttr, go_sem, Nat.le_refl, Int.toNat_natCast, Int.toNat_zero, Int.toNat_one, str_eq, sz_bA, tl_bA, Tryd.results59]
         with_reducible refine CallOk.of c0 rfl ?_
         simp (implicitDefEqProofs := false) (disch := omega) only [go_sem, simprocAttr, go_sem, Nat.le_refl, Int.toNat_natCast, Int.toNat_zero, Int.toNat_one, str_eq, sz_bA, tl_bA, Tryd.results59]
         with_reducible refine CallOk.of c1 rfl ?_
         simp (implicitDefEqProofs := false) (disch := omega) only [go_sem, simprocAttr, go_sem, Nat.le_refl, Int.toNat_natCast, Int.toNat_zero, Int.toNat_one, str_eq, sz_bA, tl_bA, Tryd.results59]
         try (first | done | omega | exact dT (by omega) | exact dF (by omega))
        )
  · rw [atI_F (fun k => absurd k h)] at c0 c1
    rw [atI_F (fun k => absurd k h)]
    simp (implicitDefEqProofs := false) (disch := omega) only [go_sem, simprocAttr, go_sem, Nat.le_refl, Int.toNat_natCast, Int.toNat_zero, Int.toNat_one, str_eq, sz_bA, tl_bA, Tryd.results59]
    with_reducible refine CallOk.of c0 rfl ?_
    simp (implicitDefEqProofs := false) (disch := omega) only [go_sem, simprocAttr, go_sem, Nat.le_refl, Int.toNat_natCast, Int.toNat_zero, Int.toNat_one, str_eq, sz_bA, tl_bA, Tryd.results59]
    with_reducible refine CallOk.of c1 rfl ?_
    simp (implicitDefEqProofs := false) (disch := omega) only [go_sem, simprocAttr, go_sem, Nat.le_refl, Int.toNat_natCast, Int.toNat_zero, Int.toNat_one, str_eq, sz_bA, tl_bA, Tryd.results59]
    try (first | done | omega | exact dT (by omega) | exact dF (by omega))
end Go.Proofs.YtegehnojbfedlaaDoor
