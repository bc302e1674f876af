import Derived.Test.YtegehnojbfedlaaDoorGA12
/-
  Chapter 25: the document's Good; the same; the law Parses.
-/
open Go Go.Proofs Go.Pw Go.RowKit
namespace Go.Proofs.YtegehnojbfedlaaDoor
set_option maxRecDepth 4000
set_option linter.unusedVariables false
set_option linter.unusedSimpArgs false
theorem skp_cons {b : UInt8} {r : List UInt8} : skp (b :: r) = b :: r ↔ isb b = false := by
  unfold skp
  constructor
  · intro h
    cases hb : isb b with
    | false => rfl
    | true =>
      rw [List.dropWhile_cons, if_pos hb] at h
      have h1 := (List.dropWhile_suffix isb (l := r)).length_le
      have h2 := congrArg List.length h
      rw [List.length_cons] at h2
      omega
  · intro h
    rw [List.dropWhile_cons, if_neg (by rw [h]; decide)]
set_option maxHeartbeats 8000000 in
theorem rgood_ok (c : Cm) (h1 : c.names.length ≤ 1000000) (h2 : c.nums.length ≤ 1000000) (h3 : c.rest.length ≤ 1000000) (hf : fewB c.names) : Ok Tryd.prog 11 [cmP c] (vB (goodC c)) := by
  obtain ⟨w, ns, ms, rt⟩ := c
  simp only at h1 h2 h3 hf
  have c1 := asks_ok w
  unfold goodC cmP
  simp only
  refine Ok.of_pwp (by kernel_rfl) Tryd.func11 rfl (by kernel_rfl) (by kernel_rfl) ?_
  cases ha : asks w with
  | none =>
    rw [ha] at c1
    unfold askP at c1
    simp (implicitDefEqProofs := false) (disch := omega) only [go_sem, simprocAttr, go_sem, Nat.le_refl, Int.toNat_natCast, Int.toNat_zero, Int.toNat_one, str_eq, sz_bA, tl_bA, encI_len, ↓ix_enc, Tryd.results11]
    with_reducible refine CallOk.of c1 rfl ?_
    simp (implicitDefEqProofs := false) (disch := omega) only [go_sem, simprocAttr, go_sem, Nat.le_refl, Int.toNat_natCast, Int.toNat_zero, Int.toNat_one, str_eq, sz_bA, tl_bA, encI_len, ↓ix_enc, Tryd.results11]
  | some q =>
    obtain ⟨a, b, r⟩ := q
    rw [ha] at c1
    unfold askP at c1
    simp only at c1 ⊢
    by_cases g1 : ns.length = a
    rotate_left
    · rw [decide_eq_false g1]
      simp only [Bool.false_and]
      simp (implicitDefEqProofs := false) (disch := omega) only [go_sem, simprocAttr, go_sem, Nat.le_refl, Int.toNat_natCast, Int.toNat_zero, Int.toNat_one, str_eq, sz_bA, tl_bA, encI_len, ↓ix_enc, Tryd.results11]
      with_reducible refine CallOk.of c1 rfl ?_
      simp (implicitDefEqProofs := false) (disch := omega) only [go_sem, simprocAttr, go_sem, Nat.le_refl, Int.toNat_natCast, Int.toNat_zero, Int.toNat_one, str_eq, sz_bA, tl_bA, encI_len, ↓ix_enc, Tryd.results11]
      first | done | rfl
    by_cases g2 : ms.length = b
    rotate_left
    · rw [decide_eq_true g1, decide_eq_false g2]
      simp only [Bool.false_and, Bool.true_and]
      simp (implicitDefEqProofs := false) (disch := omega) only [go_sem, simprocAttr, go_sem, Nat.le_refl, Int.toNat_natCast, Int.toNat_zero, Int.toNat_one, str_eq, sz_bA, tl_bA, encI_len, ↓ix_enc, Tryd.results11]
      with_reducible refine CallOk.of c1 rfl ?_
      simp (implicitDefEqProofs := false) (disch := omega) only [go_sem, simprocAttr, go_sem, Nat.le_refl, Int.toNat_natCast, Int.toNat_zero, Int.toNat_one, str_eq, sz_bA, tl_bA, encI_len, ↓ix_enc, Tryd.results11]
      first | done | rfl
    rw [decide_eq_true g1, decide_eq_true g2]
    simp only [Bool.true_and]
    by_cases g3 : r = false ∧ rt ≠ []
    · obtain ⟨rfl, g3⟩ := g3
      have e3 : decide (rt = []) = false := decide_eq_false g3
      rw [e3]
      simp only [Bool.or_self, Bool.false_and]
      simp (implicitDefEqProofs := false) (disch := omega) only [go_sem, simprocAttr, go_sem, Nat.le_refl, Int.toNat_natCast, Int.toNat_zero, Int.toNat_one, str_eq, sz_bA, tl_bA, encI_len, ↓ix_enc, Tryd.results11, e3]
      with_reducible refine CallOk.of c1 rfl ?_
      simp (implicitDefEqProofs := false) (disch := omega) only [go_sem, simprocAttr, go_sem, Nat.le_refl, Int.toNat_natCast, Int.toNat_zero, Int.toNat_one, str_eq, sz_bA, tl_bA, encI_len, ↓ix_enc, Tryd.results11, e3]
      first | done | rfl
    have e3 : (r || decide (rt = [])) = true := by
      cases r with
      | true => rfl
      | false => rw [decide_eq_true (by apply Decidable.byContradiction; intro k; exact g3 ⟨rfl, k⟩)]; rfl
    rw [e3]
    simp only [Bool.true_and]
    clear e3
    by_cases hbl : ∃ x s, rt = x :: s ∧ isb x = true
    · obtain ⟨x, s, rfl, hx⟩ := hbl
      have hr : r = true := by cases r with
        | true => rfl
        | false => exact absurd ⟨rfl, by simp⟩ g3
      subst hr
      have c2 := blank_ok x
      rw [hx] at c2
      have eb : bt (bA (x :: s)) 0 = (x.toNat : Int) := bA_bt (i := 0) rfl
      rw [← eb] at c2
      rw [decide_eq_false (mt skp_cons.1 (by rw [hx]; decide))]
      simp only [Bool.false_and]
      have e5 : decide (x :: s = []) = false := rfl
      have e6 : (x :: s).length = s.length + 1 := rfl
      simp (implicitDefEqProofs := false) (disch := omega) only [go_sem, simprocAttr, go_sem, Nat.le_refl, Int.toNat_natCast, Int.toNat_zero, Int.toNat_one, str_eq, sz_bA, tl_bA, encI_len, ↓ix_enc, Tryd.results11, e5, e6]
      with_reducible refine CallOk.of c1 rfl ?_
      simp (implicitDefEqProofs := false) (disch := omega) only [go_sem, simprocAttr, go_sem, Nat.le_refl, Int.toNat_natCast, Int.toNat_zero, Int.toNat_one, str_eq, sz_bA, tl_bA, encI_len, ↓ix_enc, Tryd.results11, e5, e6]
      with_reducible refine CallOk.of c2 rfl ?_
      simp (implicitDefEqProofs := false) (disch := omega) only [go_sem, simprocAttr, go_sem, Nat.le_refl, Int.toNat_natCast, Int.toNat_zero, Int.toNat_one, str_eq, sz_bA, tl_bA, encI_len, ↓ix_enc, Tryd.results11, e5, e6]
    have hsk : decide (skp rt = rt) = true := by
      apply decide_eq_true
      cases rt with
      | nil => rfl
      | cons x s =>
        apply skp_cons.2
        apply Bool.eq_false_iff.2
        intro k
        exact hbl ⟨x, s, rfl, k⟩
    rw [hsk]
    simp only [Bool.true_and]
    have hrt : rt = [] ∨ ∃ x s, rt = x :: s ∧ isb x = false := by
      cases rt with
      | nil => exact .inl rfl
      | cons x s =>
        refine .inr ⟨x, s, rfl, ?_⟩
        apply Bool.eq_false_iff.2
        intro k
        exact hbl ⟨x, s, rfl, k⟩
    have hc : (r = true ∧ rt = []) ∨ (r = false ∧ rt = []) ∨ (r = true ∧ ∃ x s, rt = x :: s ∧ isb x = false) := by
      cases r with
      | true =>
        rcases hrt with h | h
        · exact .inl ⟨rfl, h⟩
        · exact .inr (.inr ⟨rfl, h⟩)
      | false =>
        rcases hrt with h | ⟨x, s, h, _⟩
        · exact .inr (.inl ⟨rfl, h⟩)
        · exact absurd ⟨rfl, by rw [h]; simp⟩ g3
    obtain ⟨al, hal⟩ : ∃ al, ns.all nameL = al := ⟨_, rfl⟩
    rw [hal]
    have rl : ∀ x s, rt = x :: s → 0 < rt.length := fun x s h => by rw [h]; simp
    rcases hc with ⟨rfl, h⟩ | ⟨rfl, h⟩ | ⟨rfl, x, s, h, hx⟩
    · have e5 : decide (rt = []) = true := decide_eq_true h
      simp (implicitDefEqProofs := false) (disch := omega) only [go_sem, simprocAttr, go_sem, Nat.le_refl, Int.toNat_natCast, Int.toNat_zero, Int.toNat_one, str_eq, sz_bA, tl_bA, encI_len, ↓ix_enc, Tryd.results11, e5]
      with_reducible refine CallOk.of c1 rfl ?_
      simp (implicitDefEqProofs := false) (disch := omega) only [go_sem, simprocAttr, go_sem, Nat.le_refl, Int.toNat_natCast, Int.toNat_zero, Int.toNat_one, str_eq, sz_bA, tl_bA, encI_len, ↓ix_enc, Tryd.results11, e5]
      refine p_loop (ι := { i : Nat // i ≤ ns.length ∧ ∀ j, j < i → nameL (ns.getD j []) = true })
        (fun p => ⟨[(53, vI p.1), (52, vI ns.length), (1, .ptr 0 0)], [(0, .box 25 [vS (bA w), .sl (encB ns), .sl (encI ms), vS (bA rt)])], [], 1, 0⟩) (fun p => ns.length - p.1) ⟨0, Nat.zero_le _, fun j h => by omega⟩ ?_ ?_
      · refine ⟨?_, ?_, ?_, ?_, ?_, ?_, ?_⟩ <;> simp only [go_sem, simprocAttr, decide_eq_true_eq, Int.natCast_zero] <;> try first | omega | ((repeat' (first | exact And.intro rfl (by omega) | (refine And.intro ?_ ?_))) <;> first | rfl | omega | (congr 3; omega) | (congr 2; omega))
      · rintro ⟨i, k1, k2⟩
        simp only
        by_cases hi : i < ns.length
        · have c0 := rIsName_ok (ns.getD i []) (hf.get i)
          cases hw : nameL (ns.getD i []) with
          | false =>
            rw [hw] at c0
            have e : al = false := by rw [← hal]; exact all_no hi hw
            rw [e]
            simp (implicitDefEqProofs := false) (disch := omega) only [go_sem, simprocAttr, go_sem, Nat.le_refl, Int.toNat_natCast, Int.toNat_zero, Int.toNat_one, str_eq, sz_bA, tl_bA, encI_len, ↓ix_enc, Tryd.results11]
            with_reducible refine CallOk.of c0 rfl ?_
            simp (implicitDefEqProofs := false) (disch := omega) only [go_sem, simprocAttr, go_sem, Nat.le_refl, Int.toNat_natCast, Int.toNat_zero, Int.toNat_one, str_eq, sz_bA, tl_bA, encI_len, ↓ix_enc, Tryd.results11]
          | true =>
            rw [hw] at c0
            simp (implicitDefEqProofs := false) (disch := omega) only [go_sem, simprocAttr, go_sem, Nat.le_refl, Int.toNat_natCast, Int.toNat_zero, Int.toNat_one, str_eq, sz_bA, tl_bA, encI_len, ↓ix_enc, Tryd.results11]
            with_reducible refine CallOk.of c0 rfl ?_
            simp (implicitDefEqProofs := false) (disch := omega) only [go_sem, simprocAttr, go_sem, Nat.le_refl, Int.toNat_natCast, Int.toNat_zero, Int.toNat_one, str_eq, sz_bA, tl_bA, encI_len, ↓ix_enc, Tryd.results11]
            refine ⟨⟨i + 1, by omega, fun j hj => by
              by_cases e : j = i
              · subst e; exact hw
              · exact k2 j (by omega)⟩, by simp only; omega, ?_⟩
            refine ⟨?_, ?_, ?_, ?_, ?_, ?_, ?_⟩ <;> simp only [go_sem, simprocAttr, decide_eq_true_eq, Int.natCast_add, Int.natCast_one] <;> try first | omega | ((repeat' (first | exact And.intro rfl (by omega) | (refine And.intro ?_ ?_))) <;> first | rfl | omega | (congr 3; omega) | (congr 2; omega))
        · have e : al = true := by rw [← hal]; exact all_get (fun j hj => k2 j (by omega))
          rw [e]
          simp (implicitDefEqProofs := false) (disch := omega) only [go_sem, simprocAttr, go_sem, Nat.le_refl, Int.toNat_natCast, Int.toNat_zero, Int.toNat_one, str_eq, sz_bA, tl_bA, encI_len, ↓ix_enc, Tryd.results11]
    · have e5 : decide (rt = []) = true := decide_eq_true h
      simp (implicitDefEqProofs := false) (disch := omega) only [go_sem, simprocAttr, go_sem, Nat.le_refl, Int.toNat_natCast, Int.toNat_zero, Int.toNat_one, str_eq, sz_bA, tl_bA, encI_len, ↓ix_enc, Tryd.results11, e5]
      with_reducible refine CallOk.of c1 rfl ?_
      simp (implicitDefEqProofs := false) (disch := omega) only [go_sem, simprocAttr, go_sem, Nat.le_refl, Int.toNat_natCast, Int.toNat_zero, Int.toNat_one, str_eq, sz_bA, tl_bA, encI_len, ↓ix_enc, Tryd.results11, e5]
      refine p_loop (ι := { i : Nat // i ≤ ns.length ∧ ∀ j, j < i → nameL (ns.getD j []) = true })
        (fun p => ⟨[(53, vI p.1), (52, vI ns.length), (1, .ptr 0 0)], [(0, .box 25 [vS (bA w), .sl (encB ns), .sl (encI ms), vS (bA rt)])], [], 1, 0⟩) (fun p => ns.length - p.1) ⟨0, Nat.zero_le _, fun j h => by omega⟩ ?_ ?_
      · refine ⟨?_, ?_, ?_, ?_, ?_, ?_, ?_⟩ <;> simp only [go_sem, simprocAttr, decide_eq_true_eq, Int.natCast_zero] <;> try first | omega | ((repeat' (first | exact And.intro rfl (by omega) | (refine And.intro ?_ ?_))) <;> first | rfl | omega | (congr 3; omega) | (congr 2; omega))
      · rintro ⟨i, k1, k2⟩
        simp only
        by_cases hi : i < ns.length
        · have c0 := rIsName_ok (ns.getD i []) (hf.get i)
          cases hw : nameL (ns.getD i []) with
          | false =>
            rw [hw] at c0
            have e : al = false := by rw [← hal]; exact all_no hi hw
            rw [e]
            simp (implicitDefEqProofs := false) (disch := omega) only [go_sem, simprocAttr, go_sem, Nat.le_refl, Int.toNat_natCast, Int.toNat_zero, Int.toNat_one, str_eq, sz_bA, tl_bA, encI_len, ↓ix_enc, Tryd.results11]
            with_reducible refine CallOk.of c0 rfl ?_
            simp (implicitDefEqProofs := false) (disch := omega) only [go_sem, simprocAttr, go_sem, Nat.le_refl, Int.toNat_natCast, Int.toNat_zero, Int.toNat_one, str_eq, sz_bA, tl_bA, encI_len, ↓ix_enc, Tryd.results11]
          | true =>
            rw [hw] at c0
            simp (implicitDefEqProofs := false) (disch := omega) only [go_sem, simprocAttr, go_sem, Nat.le_refl, Int.toNat_natCast, Int.toNat_zero, Int.toNat_one, str_eq, sz_bA, tl_bA, encI_len, ↓ix_enc, Tryd.results11]
            with_reducible refine CallOk.of c0 rfl ?_
            simp (implicitDefEqProofs := false) (disch := omega) only [go_sem, simprocAttr, go_sem, Nat.le_refl, Int.toNat_natCast, Int.toNat_zero, Int.toNat_one, str_eq, sz_bA, tl_bA, encI_len, ↓ix_enc, Tryd.results11]
            refine ⟨⟨i + 1, by omega, fun j hj => by
              by_cases e : j = i
              · subst e; exact hw
              · exact k2 j (by omega)⟩, by simp only; omega, ?_⟩
            refine ⟨?_, ?_, ?_, ?_, ?_, ?_, ?_⟩ <;> simp only [go_sem, simprocAttr, decide_eq_true_eq, Int.natCast_add, Int.natCast_one] <;> try first | omega | ((repeat' (first | exact And.intro rfl (by omega) | (refine And.intro ?_ ?_))) <;> first | rfl | omega | (congr 3; omega) | (congr 2; omega))
        · have e : al = true := by rw [← hal]; exact all_get (fun j hj => k2 j (by omega))
          rw [e]
          simp (implicitDefEqProofs := false) (disch := omega) only [go_sem, simprocAttr, go_sem, Nat.le_refl, Int.toNat_natCast, Int.toNat_zero, Int.toNat_one, str_eq, sz_bA, tl_bA, encI_len, ↓ix_enc, Tryd.results11]
    · have e5 : decide (rt = []) = false := decide_eq_false (by rw [h]; simp)
      have c2 := blank_ok x
      rw [hx] at c2
      have eb : bt (bA rt) 0 = (x.toNat : Int) := bA_bt (i := 0) (by rw [h]; rfl)
      rw [← eb] at c2
      have e6 := rl _ _ h
      simp (implicitDefEqProofs := false) (disch := omega) only [go_sem, simprocAttr, go_sem, Nat.le_refl, Int.toNat_natCast, Int.toNat_zero, Int.toNat_one, str_eq, sz_bA, tl_bA, encI_len, ↓ix_enc, Tryd.results11, e5]
      with_reducible refine CallOk.of c1 rfl ?_
      simp (implicitDefEqProofs := false) (disch := omega) only [go_sem, simprocAttr, go_sem, Nat.le_refl, Int.toNat_natCast, Int.toNat_zero, Int.toNat_one, str_eq, sz_bA, tl_bA, encI_len, ↓ix_enc, Tryd.results11, e5]
      with_reducible refine CallOk.of c2 rfl ?_
      simp (implicitDefEqProofs := false) (disch := omega) only [go_sem, simprocAttr, go_sem, Nat.le_refl, Int.toNat_natCast, Int.toNat_zero, Int.toNat_one, str_eq, sz_bA, tl_bA, encI_len, ↓ix_enc, Tryd.results11, e5]
      refine p_loop (ι := { i : Nat // i ≤ ns.length ∧ ∀ j, j < i → nameL (ns.getD j []) = true })
        (fun p => ⟨[(53, vI p.1), (52, vI ns.length), (1, .ptr 0 0)], [(0, .box 25 [vS (bA w), .sl (encB ns), .sl (encI ms), vS (bA rt)])], [], 1, 0⟩) (fun p => ns.length - p.1) ⟨0, Nat.zero_le _, fun j h => by omega⟩ ?_ ?_
      · refine ⟨?_, ?_, ?_, ?_, ?_, ?_, ?_⟩ <;> simp only [go_sem, simprocAttr, decide_eq_true_eq, Int.natCast_zero] <;> try first | omega | ((repeat' (first | exact And.intro rfl (by omega) | (refine And.intro ?_ ?_))) <;> first | rfl | omega | (congr 3; omega) | (congr 2; omega))
      · rintro ⟨i, k1, k2⟩
        simp only
        by_cases hi : i < ns.length
        · have c0 := rIsName_ok (ns.getD i []) (hf.get i)
          cases hw : nameL (ns.getD i []) with
          | false =>
            rw [hw] at c0
            have e : al = false := by rw [← hal]; exact all_no hi hw
            rw [e]
            simp (implicitDefEqProofs := false) (disch := omega) only [go_sem, simprocAttr, go_sem, Nat.le_refl, Int.toNat_natCast, Int.toNat_zero, Int.toNat_one, str_eq, sz_bA, tl_bA, encI_len, ↓ix_enc, Tryd.results11]
            with_reducible refine CallOk.of c0 rfl ?_
            simp (implicitDefEqProofs := false) (disch := omega) only [go_sem, simprocAttr, go_sem, Nat.le_refl, Int.toNat_natCast, Int.toNat_zero, Int.toNat_one, str_eq, sz_bA, tl_bA, encI_len, ↓ix_enc, Tryd.results11]
          | true =>
            rw [hw] at c0
            simp (implicitDefEqProofs := false) (disch := omega) only [go_sem, simprocAttr, go_sem, Nat.le_refl, Int.toNat_natCast, Int.toNat_zero, Int.toNat_one, str_eq, sz_bA, tl_bA, encI_len, ↓ix_enc, Tryd.results11]
            with_reducible refine CallOk.of c0 rfl ?_
            simp (implicitDefEqProofs := false) (disch := omega) only [go_sem, simprocAttr, go_sem, Nat.le_refl, Int.toNat_natCast, Int.toNat_zero, Int.toNat_one, str_eq, sz_bA, tl_bA, encI_len, ↓ix_enc, Tryd.results11]
            refine ⟨⟨i + 1, by omega, fun j hj => by
              by_cases e : j = i
              · subst e; exact hw
              · exact k2 j (by omega)⟩, by simp only; omega, ?_⟩
            refine ⟨?_, ?_, ?_, ?_, ?_, ?_, ?_⟩ <;> simp only [go_sem, simprocAttr, decide_eq_true_eq, Int.natCast_add, Int.natCast_one] <;> try first | omega | ((repeat' (first | exact And.intro rfl (by omega) | (refine And.intro ?_ ?_))) <;> first | rfl | omega | (congr 3; omega) | (congr 2; omega))
        · have e : al = true := by rw [← hal]; exact all_get (fun j hj => k2 j (by omega))
          rw [e]
          simp (implicitDefEqProofs := false) (disch := omega) only [go_sem, simprocAttr, go_sem, Nat.le_refl, Int.toNat_natCast, Int.toNat_zero, Int.toNat_one, str_eq, sz_bA, tl_bA, encI_len, ↓ix_enc, Tryd.results11]
end Go.Proofs.YtegehnojbfedlaaDoor
