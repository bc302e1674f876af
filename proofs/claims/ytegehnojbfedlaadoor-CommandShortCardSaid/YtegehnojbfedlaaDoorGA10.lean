import Derived.Test.YtegehnojbfedlaaDoorGA9
/-
  Chapter 25: the document's blanks, pieces, words, names.
-/
open Go Go.Proofs Go.Pw Go.RowKit
namespace Go.Proofs.YtegehnojbfedlaaDoor
set_option maxRecDepth 4000
set_option linter.unusedVariables false
set_option linter.unusedSimpArgs false
theorem isb_I (b : UInt8) : isb b = true ↔ ((b.toNat : Int) = 32 ∨ (b.toNat : Int) = 9 ∨ (b.toNat : Int) = 10 ∨ (b.toNat : Int) = 13) := by
  rw [isb_mem]
  simp only [List.mem_cons, List.not_mem_nil, or_false, ← UInt8.toNat_inj]
  have e1 : (32 : UInt8).toNat = 32 := rfl
  have e2 : (9 : UInt8).toNat = 9 := rfl
  have e3 : (10 : UInt8).toNat = 10 := rfl
  have e4 : (13 : UInt8).toNat = 13 := rfl
  omega
theorem drop_get {S : List UInt8} {i j : Nat} {b : UInt8} (h : (S.drop i)[j]? = some b) : S[i + j]? = some b := by rwa [List.getElem?_drop] at h
theorem ps_drop {S : List UInt8} {i : Nat} (h : i ≤ S.length) : ps S (S.drop i) = i := by unfold ps; rw [List.length_drop]; omega
/-- What was walked over so far. -/
def okTo (S : List UInt8) (i n : Nat) (p : UInt8 → Bool) : Prop := i + n ≤ S.length ∧ ∀ j, j < n → ∀ b, (S.drop i)[j]? = some b → p b = true
theorem okTo.succ {S : List UInt8} {i n : Nat} {p : UInt8 → Bool} {b : UInt8} (h : okTo S i n p) (hb : S[i + n]? = some b) (hp : p b = true) : okTo S i (n + 1) p :=
  ⟨by have := (List.getElem?_eq_some_iff.1 hb).1; omega, fun j hj c hc => by
    by_cases e : j = n
    · subst e; rw [drop_get hc] at hb; cases hb; exact hp
    · exact h.2 j (by omega) c hc⟩
theorem okTo.fin {S : List UInt8} {i n : Nat} {p : UInt8 → Bool} (h : okTo S i n p) (hp : ∀ b, S[i + n]? = some b → p b = false) : (S.drop i).takeWhile p = (S.drop i).take n ∧ (S.drop i).dropWhile p = S.drop (i + n) := by
  have := tw_ix (p := p) (l := S.drop i) (n := n) (by rw [List.length_drop]; have := h.1; omega) h.2 (fun b hb => hp b (drop_get hb))
  rw [List.drop_drop] at this
  exact this
set_option maxHeartbeats 2000000 in
theorem blanks_ok (S : List UInt8) (i : Nat) (hi : i ≤ S.length) (hS : S.length ≤ 1000000) : Ok Tryd.prog 35 [vS (bA S), vI i] (vI (ps S (skp (S.drop i)))) := by
  have ev : True := trivial
  refine Ok.of_pwp (by kernel_rfl) Tryd.func35 rfl (by kernel_rfl) (by kernel_rfl) ?_
  simp (implicitDefEqProofs := false) (disch := omega) only [go_sem, simprocAttr, go_sem, Nat.le_refl, Int.toNat_natCast, Int.toNat_zero, Int.toNat_one, str_eq, sz_bA, tl_bA, Tryd.results35, ev]
  refine p_loop (ι := { n : Nat // okTo S i n isb }) (fun n => ⟨[(1, vI (i + n.1 : Nat)), (0, vS (bA S))], [], [], 0, 0⟩) (fun n => S.length - (i + n.1)) ⟨0, by omega, fun j h => by omega⟩ ?_ ?_
  · refine ⟨?_, ?_, ?_, ?_, ?_, ?_, ?_⟩ <;> simp only [go_sem, simprocAttr, decide_eq_true_eq, Nat.add_zero] <;> try first | omega | ((repeat' (first | exact And.intro rfl (by omega) | (refine And.intro ?_ ?_))) <;> first | rfl | omega | (congr 3; omega) | (congr 2; omega))
  · rintro ⟨n, hn⟩
    have hn1 := hn.1
    obtain ⟨k, hk⟩ : ∃ k, k = i + n := ⟨_, rfl⟩
    simp only
    rw [← hk]
    have c1 := is_ok S k 32
    have c2 := is_ok S k 9
    have c3 := is_ok S k 10
    have c4 := is_ok S k 13
    have ev : (k : Int) + 1 = ((i + (n + 1) : Nat) : Int) := by omega
    by_cases hl : k < S.length
    · obtain ⟨b, hb⟩ : ∃ b, S[k]? = some b := ⟨_, List.getElem?_eq_getElem hl⟩
      have eb := bA_bt hb
      have hI := isb_I b
      by_cases h1 : bt (bA S) k = 32
      · rw [atI_T hl h1] at c1
        have hs := hn.succ (hk ▸ hb) (hI.2 (by omega))
        simp (implicitDefEqProofs := false) (disch := omega) only [go_sem, simprocAttr, go_sem, Nat.le_refl, Int.toNat_natCast, Int.toNat_zero, Int.toNat_one, str_eq, sz_bA, tl_bA, Tryd.results35, ev]
        with_reducible refine CallOk.of c1 rfl ?_
        simp (implicitDefEqProofs := false) (disch := omega) only [go_sem, simprocAttr, go_sem, Nat.le_refl, Int.toNat_natCast, Int.toNat_zero, Int.toNat_one, str_eq, sz_bA, tl_bA, Tryd.results35, ev]
        refine ⟨⟨n + 1, hs⟩, by simp only; omega, ?_⟩
        refine ⟨?_, ?_, ?_, ?_, ?_, ?_, ?_⟩ <;> simp only [go_sem, simprocAttr, decide_eq_true_eq, ] <;> try first | omega | ((repeat' (first | exact And.intro rfl (by omega) | (refine And.intro ?_ ?_))) <;> first | rfl | omega | (congr 3; omega) | (congr 2; omega))
      rw [atI_F (fun _ => h1)] at c1
      by_cases h2 : bt (bA S) k = 9
      · rw [atI_T hl h2] at c2
        have hs := hn.succ (hk ▸ hb) (hI.2 (by omega))
        simp (implicitDefEqProofs := false) (disch := omega) only [go_sem, simprocAttr, go_sem, Nat.le_refl, Int.toNat_natCast, Int.toNat_zero, Int.toNat_one, str_eq, sz_bA, tl_bA, Tryd.results35, ev]
        with_reducible refine CallOk.of c1 rfl ?_
        simp (implicitDefEqProofs := false) (disch := omega) only [go_sem, simprocAttr, go_sem, Nat.le_refl, Int.toNat_natCast, Int.toNat_zero, Int.toNat_one, str_eq, sz_bA, tl_bA, Tryd.results35, ev]
        with_reducible refine CallOk.of c2 rfl ?_
        simp (implicitDefEqProofs := false) (disch := omega) only [go_sem, simprocAttr, go_sem, Nat.le_refl, Int.toNat_natCast, Int.toNat_zero, Int.toNat_one, str_eq, sz_bA, tl_bA, Tryd.results35, ev]
        refine ⟨⟨n + 1, hs⟩, by simp only; omega, ?_⟩
        refine ⟨?_, ?_, ?_, ?_, ?_, ?_, ?_⟩ <;> simp only [go_sem, simprocAttr, decide_eq_true_eq, ] <;> try first | omega | ((repeat' (first | exact And.intro rfl (by omega) | (refine And.intro ?_ ?_))) <;> first | rfl | omega | (congr 3; omega) | (congr 2; omega))
      rw [atI_F (fun _ => h2)] at c2
      by_cases h3 : bt (bA S) k = 10
      · rw [atI_T hl h3] at c3
        have hs := hn.succ (hk ▸ hb) (hI.2 (by omega))
        simp (implicitDefEqProofs := false) (disch := omega) only [go_sem, simprocAttr, go_sem, Nat.le_refl, Int.toNat_natCast, Int.toNat_zero, Int.toNat_one, str_eq, sz_bA, tl_bA, Tryd.results35, ev]
        with_reducible refine CallOk.of c1 rfl ?_
        simp (implicitDefEqProofs := false) (disch := omega) only [go_sem, simprocAttr, go_sem, Nat.le_refl, Int.toNat_natCast, Int.toNat_zero, Int.toNat_one, str_eq, sz_bA, tl_bA, Tryd.results35, ev]
        with_reducible refine CallOk.of c2 rfl ?_
        simp (implicitDefEqProofs := false) (disch := omega) only [go_sem, simprocAttr, go_sem, Nat.le_refl, Int.toNat_natCast, Int.toNat_zero, Int.toNat_one, str_eq, sz_bA, tl_bA, Tryd.results35, ev]
        with_reducible refine CallOk.of c3 rfl ?_
        simp (implicitDefEqProofs := false) (disch := omega) only [go_sem, simprocAttr, go_sem, Nat.le_refl, Int.toNat_natCast, Int.toNat_zero, Int.toNat_one, str_eq, sz_bA, tl_bA, Tryd.results35, ev]
        refine ⟨⟨n + 1, hs⟩, by simp only; omega, ?_⟩
        refine ⟨?_, ?_, ?_, ?_, ?_, ?_, ?_⟩ <;> simp only [go_sem, simprocAttr, decide_eq_true_eq, ] <;> try first | omega | ((repeat' (first | exact And.intro rfl (by omega) | (refine And.intro ?_ ?_))) <;> first | rfl | omega | (congr 3; omega) | (congr 2; omega))
      rw [atI_F (fun _ => h3)] at c3
      by_cases h4 : bt (bA S) k = 13
      · rw [atI_T hl h4] at c4
        have hs := hn.succ (hk ▸ hb) (hI.2 (by omega))
        simp (implicitDefEqProofs := false) (disch := omega) only [go_sem, simprocAttr, go_sem, Nat.le_refl, Int.toNat_natCast, Int.toNat_zero, Int.toNat_one, str_eq, sz_bA, tl_bA, Tryd.results35, ev]
        with_reducible refine CallOk.of c1 rfl ?_
        simp (implicitDefEqProofs := false) (disch := omega) only [go_sem, simprocAttr, go_sem, Nat.le_refl, Int.toNat_natCast, Int.toNat_zero, Int.toNat_one, str_eq, sz_bA, tl_bA, Tryd.results35, ev]
        with_reducible refine CallOk.of c2 rfl ?_
        simp (implicitDefEqProofs := false) (disch := omega) only [go_sem, simprocAttr, go_sem, Nat.le_refl, Int.toNat_natCast, Int.toNat_zero, Int.toNat_one, str_eq, sz_bA, tl_bA, Tryd.results35, ev]
        with_reducible refine CallOk.of c3 rfl ?_
        simp (implicitDefEqProofs := false) (disch := omega) only [go_sem, simprocAttr, go_sem, Nat.le_refl, Int.toNat_natCast, Int.toNat_zero, Int.toNat_one, str_eq, sz_bA, tl_bA, Tryd.results35, ev]
        with_reducible refine CallOk.of c4 rfl ?_
        simp (implicitDefEqProofs := false) (disch := omega) only [go_sem, simprocAttr, go_sem, Nat.le_refl, Int.toNat_natCast, Int.toNat_zero, Int.toNat_one, str_eq, sz_bA, tl_bA, Tryd.results35, ev]
        refine ⟨⟨n + 1, hs⟩, by simp only; omega, ?_⟩
        refine ⟨?_, ?_, ?_, ?_, ?_, ?_, ?_⟩ <;> simp only [go_sem, simprocAttr, decide_eq_true_eq, ] <;> try first | omega | ((repeat' (first | exact And.intro rfl (by omega) | (refine And.intro ?_ ?_))) <;> first | rfl | omega | (congr 3; omega) | (congr 2; omega))
      rw [atI_F (fun _ => h4)] at c4
      have hf := hn.fin (fun c hc => by
        rw [← hk, hb] at hc
        cases hc
        exact Bool.eq_false_iff.2 (fun q => by have := hI.1 q; omega))
      have er : ps S (skp (S.drop i)) = k := by unfold skp; rw [hf.2, ← hk, ps_drop (by omega)]
      rw [er]
      simp (implicitDefEqProofs := false) (disch := omega) only [go_sem, simprocAttr, go_sem, Nat.le_refl, Int.toNat_natCast, Int.toNat_zero, Int.toNat_one, str_eq, sz_bA, tl_bA, Tryd.results35, ev]
      with_reducible refine CallOk.of c1 rfl ?_
      simp (implicitDefEqProofs := false) (disch := omega) only [go_sem, simprocAttr, go_sem, Nat.le_refl, Int.toNat_natCast, Int.toNat_zero, Int.toNat_one, str_eq, sz_bA, tl_bA, Tryd.results35, ev]
      with_reducible refine CallOk.of c2 rfl ?_
      simp (implicitDefEqProofs := false) (disch := omega) only [go_sem, simprocAttr, go_sem, Nat.le_refl, Int.toNat_natCast, Int.toNat_zero, Int.toNat_one, str_eq, sz_bA, tl_bA, Tryd.results35, ev]
      with_reducible refine CallOk.of c3 rfl ?_
      simp (implicitDefEqProofs := false) (disch := omega) only [go_sem, simprocAttr, go_sem, Nat.le_refl, Int.toNat_natCast, Int.toNat_zero, Int.toNat_one, str_eq, sz_bA, tl_bA, Tryd.results35, ev]
      with_reducible refine CallOk.of c4 rfl ?_
      simp (implicitDefEqProofs := false) (disch := omega) only [go_sem, simprocAttr, go_sem, Nat.le_refl, Int.toNat_natCast, Int.toNat_zero, Int.toNat_one, str_eq, sz_bA, tl_bA, Tryd.results35, ev]
    · rw [atI_F (fun q => absurd q hl)] at c1 c2 c3 c4
      have hf := hn.fin (fun c hc => by
        rw [← hk] at hc
        exact absurd (List.getElem?_eq_some_iff.1 hc).1 hl)
      have er : ps S (skp (S.drop i)) = k := by unfold skp; rw [hf.2, ← hk, ps_drop (by omega)]
      rw [er]
      simp (implicitDefEqProofs := false) (disch := omega) only [go_sem, simprocAttr, go_sem, Nat.le_refl, Int.toNat_natCast, Int.toNat_zero, Int.toNat_one, str_eq, sz_bA, tl_bA, Tryd.results35, ev]
      with_reducible refine CallOk.of c1 rfl ?_
      simp (implicitDefEqProofs := false) (disch := omega) only [go_sem, simprocAttr, go_sem, Nat.le_refl, Int.toNat_natCast, Int.toNat_zero, Int.toNat_one, str_eq, sz_bA, tl_bA, Tryd.results35, ev]
      with_reducible refine CallOk.of c2 rfl ?_
      simp (implicitDefEqProofs := false) (disch := omega) only [go_sem, simprocAttr, go_sem, Nat.le_refl, Int.toNat_natCast, Int.toNat_zero, Int.toNat_one, str_eq, sz_bA, tl_bA, Tryd.results35, ev]
      with_reducible refine CallOk.of c3 rfl ?_
      simp (implicitDefEqProofs := false) (disch := omega) only [go_sem, simprocAttr, go_sem, Nat.le_refl, Int.toNat_natCast, Int.toNat_zero, Int.toNat_one, str_eq, sz_bA, tl_bA, Tryd.results35, ev]
      with_reducible refine CallOk.of c4 rfl ?_
      simp (implicitDefEqProofs := false) (disch := omega) only [go_sem, simprocAttr, go_sem, Nat.le_refl, Int.toNat_natCast, Int.toNat_zero, Int.toNat_one, str_eq, sz_bA, tl_bA, Tryd.results35, ev]
theorem blank_ok (b : UInt8) : Ok Tryd.prog 25 [.val (.int .u8 b.toNat)] (vB (isb b)) := by
  have hI := isb_I b
  refine Ok.of_pwp (by kernel_rfl) Tryd.func25 rfl (by kernel_rfl) (by kernel_rfl) ?_
  generalize (b.toNat : Int) = x at *
  by_cases h1 : x = 32
  · rw [hI.2 (.inl h1)]
    simp (implicitDefEqProofs := false) (disch := omega) only [go_sem, simprocAttr, go_sem, Nat.le_refl, Int.toNat_natCast, Int.toNat_zero, Int.toNat_one, str_eq, sz_bA, tl_bA, Tryd.results25]
  by_cases h2 : x = 9
  · rw [hI.2 (.inr (.inl h2))]
    simp (implicitDefEqProofs := false) (disch := omega) only [go_sem, simprocAttr, go_sem, Nat.le_refl, Int.toNat_natCast, Int.toNat_zero, Int.toNat_one, str_eq, sz_bA, tl_bA, Tryd.results25]
  by_cases h3 : x = 10
  · rw [hI.2 (.inr (.inr (.inl h3)))]
    simp (implicitDefEqProofs := false) (disch := omega) only [go_sem, simprocAttr, go_sem, Nat.le_refl, Int.toNat_natCast, Int.toNat_zero, Int.toNat_one, str_eq, sz_bA, tl_bA, Tryd.results25]
  by_cases h4 : x = 13
  · rw [hI.2 (.inr (.inr (.inr h4)))]
    simp (implicitDefEqProofs := false) (disch := omega) only [go_sem, simprocAttr, go_sem, Nat.le_refl, Int.toNat_natCast, Int.toNat_zero, Int.toNat_one, str_eq, sz_bA, tl_bA, Tryd.results25]
    (first | done | omega | exact dT (by omega) | exact dF (by omega))
  have hb : isb b = false := Bool.eq_false_iff.2 (fun q => by have := hI.1 q; omega)
  rw [hb]
  simp (implicitDefEqProofs := false) (disch := omega) only [go_sem, simprocAttr, go_sem, Nat.le_refl, Int.toNat_natCast, Int.toNat_zero, Int.toNat_one, str_eq, sz_bA, tl_bA, Tryd.results25]
  (first | done | omega | exact dT (by omega) | exact dF (by omega))
set_option maxHeartbeats 2000000 in
theorem piece_ok (S : List UInt8) (i : Nat) (hi : i ≤ S.length) (hS : S.length ≤ 1000000) : Ok Tryd.prog 32 [vS (bA S), vI i] (.tup [vS (bA (wrd (S.drop i))), vI (ps S (skp (S.drop i))), vI (ps S (rst (S.drop i)))]) := by
  have ev : True := trivial
  have c0 := blanks_ok S i hi hS
  have hsk : skp (S.drop i) = S.drop (ps S (skp (S.drop i))) := List.suffix_iff_eq_drop.1 ((skp_suf _).trans (List.drop_suffix _ _))
  have hf0 : ps S (skp (S.drop i)) ≤ S.length := by unfold ps; omega
  unfold wrd rst
  generalize ps S (skp (S.drop i)) = f at *
  rw [hsk]
  refine Ok.of_pwp (by kernel_rfl) Tryd.func32 rfl (by kernel_rfl) (by kernel_rfl) ?_
  simp (implicitDefEqProofs := false) (disch := omega) only [go_sem, simprocAttr, go_sem, Nat.le_refl, Int.toNat_natCast, Int.toNat_zero, Int.toNat_one, str_eq, sz_bA, tl_bA, Tryd.results32, ev]
  with_reducible refine CallOk.of c0 rfl ?_
  simp (implicitDefEqProofs := false) (disch := omega) only [go_sem, simprocAttr, go_sem, Nat.le_refl, Int.toNat_natCast, Int.toNat_zero, Int.toNat_one, str_eq, sz_bA, tl_bA, Tryd.results32, ev]
  refine p_loop (ι := { n : Nat // okTo S f n (fun b => !isb b) }) (fun n => ⟨[(8, vI (f + n.1 : Nat)), (7, vI f), (0, vS (bA S))], [], [], 0, 0⟩) (fun n => S.length - (f + n.1)) ⟨0, by omega, fun j h => by omega⟩ ?_ ?_
  · refine ⟨?_, ?_, ?_, ?_, ?_, ?_, ?_⟩ <;> simp only [go_sem, simprocAttr, decide_eq_true_eq, Nat.add_zero] <;> try first | omega | ((repeat' (first | exact And.intro rfl (by omega) | (refine And.intro ?_ ?_))) <;> first | rfl | omega | (congr 3; omega) | (congr 2; omega))
  · rintro ⟨n, hn⟩
    have hn1 := hn.1
    obtain ⟨k, hk⟩ : ∃ k, k = f + n := ⟨_, rfl⟩
    simp only
    rw [← hk]
    have ev : (k : Int) + 1 = ((f + (n + 1) : Nat) : Int) := by omega
    by_cases hl : k < S.length
    · obtain ⟨b, hb⟩ : ∃ b, S[k]? = some b := ⟨_, List.getElem?_eq_getElem hl⟩
      have eb := bA_bt hb
      have c1 := blank_ok b
      rw [← eb] at c1
      cases hib : isb b with
      | false =>
        rw [hib] at c1
        have hs := hn.succ (hk ▸ hb) (by simp only [hib, Bool.not_false])
        simp (implicitDefEqProofs := false) (disch := omega) only [go_sem, simprocAttr, go_sem, Nat.le_refl, Int.toNat_natCast, Int.toNat_zero, Int.toNat_one, str_eq, sz_bA, tl_bA, Tryd.results32, ev]
        with_reducible refine CallOk.of c1 rfl ?_
        simp (implicitDefEqProofs := false) (disch := omega) only [go_sem, simprocAttr, go_sem, Nat.le_refl, Int.toNat_natCast, Int.toNat_zero, Int.toNat_one, str_eq, sz_bA, tl_bA, Tryd.results32, ev]
        refine ⟨⟨n + 1, hs⟩, by simp only; omega, ?_⟩
        refine ⟨?_, ?_, ?_, ?_, ?_, ?_, ?_⟩ <;> simp only [go_sem, simprocAttr, decide_eq_true_eq, ] <;> try first | omega | ((repeat' (first | exact And.intro rfl (by omega) | (refine And.intro ?_ ?_))) <;> first | rfl | omega | (congr 3; omega) | (congr 2; omega))
      | true =>
        rw [hib] at c1
        have hf := hn.fin (fun c hc => by
          rw [← hk, hb] at hc
          cases hc
          simp only [hib, Bool.not_true])
        have ew : ps S (nbr (S.drop f)) = k := by unfold nbr; rw [hf.2, ← hk, ps_drop (by omega)]
        have hx : (bA S).extract f k = bA (nbt (S.drop f)) := by rw [ex_bA]; unfold nbt; rw [hf.1]; congr 2; omega
        simp (implicitDefEqProofs := false) (disch := omega) only [go_sem, simprocAttr, go_sem, Nat.le_refl, Int.toNat_natCast, Int.toNat_zero, Int.toNat_one, str_eq, sz_bA, tl_bA, Tryd.results32, ev]
        with_reducible refine CallOk.of c1 rfl ?_
        simp (implicitDefEqProofs := false) (disch := omega) only [go_sem, simprocAttr, go_sem, Nat.le_refl, Int.toNat_natCast, Int.toNat_zero, Int.toNat_one, str_eq, sz_bA, tl_bA, Tryd.results32, hx, ew]
        try omega
    · have hf := hn.fin (fun c hc => by
        rw [← hk] at hc
        exact absurd (List.getElem?_eq_some_iff.1 hc).1 hl)
      have ew : ps S (nbr (S.drop f)) = k := by unfold nbr; rw [hf.2, ← hk, ps_drop (by omega)]
      have hx : (bA S).extract f k = bA (nbt (S.drop f)) := by rw [ex_bA]; unfold nbt; rw [hf.1]; congr 2; omega
      simp (implicitDefEqProofs := false) (disch := omega) only [go_sem, simprocAttr, go_sem, Nat.le_refl, Int.toNat_natCast, Int.toNat_zero, Int.toNat_one, str_eq, sz_bA, tl_bA, Tryd.results32, hx, ew]
      try omega
/-- The word at the front. -/
def wdN (l : List UInt8) : List UInt8 × Nat := match skp l with
  | [] => ([], 0)
  | b :: r => if ltrB b = true then ((b :: r).takeWhile goB, ps l (skp l) + ((b :: r).takeWhile goB).length) else ([], 0)
set_option maxHeartbeats 2000000 in
theorem word_ok (S : List UInt8) (hS : S.length ≤ 1000000) : Ok Tryd.prog 40 [vS (bA S), vI 0] (.tup [vS (bA (wdN S).1), vI (wdN S).2]) := by
  have c0 : Ok Tryd.prog 35 [vS (bA S), vI 0] (vI (ps S (skp S))) := blanks_ok S 0 (Nat.zero_le _) hS
  have hsk : skp S = S.drop (ps S (skp S)) := List.suffix_iff_eq_drop.1 (skp_suf _)
  have hf0 : ps S (skp S) ≤ S.length := by unfold ps; omega
  have hnf : ∀ b r, skp S = b :: r → ltrB b = true → wdN S = ((skp S).takeWhile goB, ps S (skp S) + ((skp S).takeWhile goB).length) := fun b r h k => by
    unfold wdN
    rw [h]
    exact if_pos k
  have hnn : (∀ b r, skp S = b :: r → ltrB b = false) → wdN S = ([], 0) := fun h => by
    unfold wdN
    split
    · rfl
    · rename_i b r e
      rw [if_neg (by rw [h b r e]; decide)]
  generalize ps S (skp S) = f at *
  have c1 := letter_ok S f
  refine Ok.of_pwp (by kernel_rfl) Tryd.func40 rfl (by kernel_rfl) (by kernel_rfl) ?_
  by_cases hl : f < S.length ∧ ltrI (bt (bA S) f)
  · obtain ⟨b, hb⟩ : ∃ b, S[f]? = some b := ⟨_, List.getElem?_eq_getElem hl.1⟩
    have eb := bA_bt hb
    have e1 : skp S = b :: S.drop (f + 1) := by rw [hsk, List.drop_eq_getElem_cons hl.1]; congr 1; exact (List.getElem?_eq_some_iff.1 hb).2
    have e2 : ltrB b = true := decide_eq_true (by rw [← eb]; exact hl.2)
    rw [hnf _ _ e1 e2, hsk]
    clear hnf hnn
    rw [atI_T hl.1 hl.2] at c1
    simp (implicitDefEqProofs := false) (disch := omega) only [go_sem, simprocAttr, go_sem, Nat.le_refl, Int.toNat_natCast, Int.toNat_zero, Int.toNat_one, str_eq, sz_bA, tl_bA, Tryd.results40]
    with_reducible refine CallOk.of c0 rfl ?_
    simp (implicitDefEqProofs := false) (disch := omega) only [go_sem, simprocAttr, go_sem, Nat.le_refl, Int.toNat_natCast, Int.toNat_zero, Int.toNat_one, str_eq, sz_bA, tl_bA, Tryd.results40]
    with_reducible refine CallOk.of c1 rfl ?_
    simp (implicitDefEqProofs := false) (disch := omega) only [go_sem, simprocAttr, go_sem, Nat.le_refl, Int.toNat_natCast, Int.toNat_zero, Int.toNat_one, str_eq, sz_bA, tl_bA, Tryd.results40]
    refine p_loop (ι := { n : Nat // okTo S f n goB }) (fun n => ⟨[(7, vI (f + n.1 : Nat)), (6, vI f), (0, vS (bA S))], [], [], 0, 0⟩) (fun n => S.length - (f + n.1)) ⟨0, by omega, fun j h => by omega⟩ ?_ ?_
    · refine ⟨?_, ?_, ?_, ?_, ?_, ?_, ?_⟩ <;> simp only [go_sem, simprocAttr, decide_eq_true_eq, Nat.add_zero] <;> try first | omega | ((repeat' (first | exact And.intro rfl (by omega) | (refine And.intro ?_ ?_))) <;> first | rfl | omega | (congr 3; omega) | (congr 2; omega))
    · rintro ⟨n, hn⟩
      have hn1 := hn.1
      obtain ⟨k, hk⟩ : ∃ k, k = f + n := ⟨_, rfl⟩
      simp only
      rw [← hk]
      have ev : (k : Int) + 1 = ((f + (n + 1) : Nat) : Int) := by omega
      have c2 := goes_ok S k
      by_cases hg : k < S.length ∧ goI (bt (bA S) k)
      · obtain ⟨c, hc⟩ : ∃ c, S[k]? = some c := ⟨_, List.getElem?_eq_getElem hg.1⟩
        have hs := hn.succ (hk ▸ hc) (decide_eq_true (by rw [← bA_bt hc]; exact hg.2))
        rw [atI_T hg.1 hg.2] at c2
        simp (implicitDefEqProofs := false) (disch := omega) only [go_sem, simprocAttr, go_sem, Nat.le_refl, Int.toNat_natCast, Int.toNat_zero, Int.toNat_one, str_eq, sz_bA, tl_bA, Tryd.results40, ev]
        with_reducible refine CallOk.of c2 rfl ?_
        simp (implicitDefEqProofs := false) (disch := omega) only [go_sem, simprocAttr, go_sem, Nat.le_refl, Int.toNat_natCast, Int.toNat_zero, Int.toNat_one, str_eq, sz_bA, tl_bA, Tryd.results40, ev]
        refine ⟨⟨n + 1, hs⟩, by simp only; omega, ?_⟩
        refine ⟨?_, ?_, ?_, ?_, ?_, ?_, ?_⟩ <;> simp only [go_sem, simprocAttr, decide_eq_true_eq, ] <;> try first | omega | ((repeat' (first | exact And.intro rfl (by omega) | (refine And.intro ?_ ?_))) <;> first | rfl | omega | (congr 3; omega) | (congr 2; omega))
      · have hf := hn.fin (fun c hc => decide_eq_false (fun q => by
          rw [← hk] at hc
          exact hg ⟨(List.getElem?_eq_some_iff.1 hc).1, by rw [bA_bt hc]; exact q⟩))
        have el : ((S.drop f).takeWhile goB).length = n := by rw [hf.1, List.length_take, List.length_drop]; omega
        have ew : f + ((S.drop f).takeWhile goB).length = k := by omega
        have hx : (bA S).extract f k = bA ((S.drop f).takeWhile goB) := by rw [ex_bA, hf.1]; congr 2; omega
        rw [atI_F (fun h q => hg ⟨h, q⟩)] at c2
        simp (implicitDefEqProofs := false) (disch := omega) only [go_sem, simprocAttr, go_sem, Nat.le_refl, Int.toNat_natCast, Int.toNat_zero, Int.toNat_one, str_eq, sz_bA, tl_bA, Tryd.results40, ev]
        with_reducible refine CallOk.of c2 rfl ?_
        simp (implicitDefEqProofs := false) (disch := omega) only [go_sem, simprocAttr, go_sem, Nat.le_refl, Int.toNat_natCast, Int.toNat_zero, Int.toNat_one, str_eq, sz_bA, tl_bA, Tryd.results40, hx, ew]
        try omega
  · rw [atI_F (fun h q => hl ⟨h, q⟩)] at c1
    have e : wdN S = ([], 0) := hnn (fun b r h => by
      apply decide_eq_false
      intro q
      have h1 : f < S.length := by
        rw [hsk] at h
        have := congrArg List.length h
        rw [List.length_drop, List.length_cons] at this
        omega
      have h2 : S[f]? = some b := by
        have h3 : (S.drop f)[0]? = some b := by rw [← hsk, h]; rfl
        exact drop_get h3
      exact hl ⟨h1, by rw [bA_bt h2]; exact q⟩)
    rw [e]
    simp (implicitDefEqProofs := false) (disch := omega) only [go_sem, simprocAttr, go_sem, Nat.le_refl, Int.toNat_natCast, Int.toNat_zero, Int.toNat_one, str_eq, sz_bA, tl_bA, Tryd.results40]
    with_reducible refine CallOk.of c0 rfl ?_
    simp (implicitDefEqProofs := false) (disch := omega) only [go_sem, simprocAttr, go_sem, Nat.le_refl, Int.toNat_natCast, Int.toNat_zero, Int.toNat_one, str_eq, sz_bA, tl_bA, Tryd.results40]
    with_reducible refine CallOk.of c1 rfl ?_
    simp (implicitDefEqProofs := false) (disch := omega) only [go_sem, simprocAttr, go_sem, Nat.le_refl, Int.toNat_natCast, Int.toNat_zero, Int.toNat_one, str_eq, sz_bA, tl_bA, Tryd.results40]
    first | done | rfl
theorem mem_tw {p : UInt8 → Bool} : ∀ {l : List UInt8} {x : UInt8}, x ∈ l.takeWhile p → p x = true
  | b :: r, x, h => by
    rw [List.takeWhile_cons] at h
    split at h
    · rename_i hb
      rcases List.mem_cons.1 h with rfl | h
      · exact hb
      · exact mem_tw h
    · cases h
theorem tw_all {p : UInt8 → Bool} : ∀ {l : List UInt8}, (∀ x ∈ l, p x = true) → l.takeWhile p = l
  | [], _ => rfl
  | b :: r, h => by rw [List.takeWhile_cons, if_pos (h b (by simp)), tw_all (fun x hx => h x (by simp [hx]))]
theorem ltr_nb {b : UInt8} (h : ltrB b = true) : isb b = false := by
  apply Bool.eq_false_iff.2
  intro k
  have h1 := of_decide_eq_true h
  have h2 := (isb_I b).1 k
  unfold ltrI at h1
  omega
theorem go_nb {b : UInt8} (h : goB b = true) : isb b = false := by
  apply Bool.eq_false_iff.2
  intro k
  have h1 := of_decide_eq_true h
  have h2 := (isb_I b).1 k
  unfold goI ltrI at h1
  omega
theorem ltr_go {b : UInt8} (h : ltrB b = true) : goB b = true := decide_eq_true (.inl (of_decide_eq_true h))
theorem name_wd (l : List UInt8) : nameL l = true ↔ l ≠ [] ∧ (wdN l).1 = l ∧ (wdN l).2 = l.length := by
  constructor
  · intro h
    cases l with
    | nil => cases h
    | cons b r =>
      simp only [nameL, Bool.and_eq_true, List.all_eq_true] at h
      have e : skp (b :: r) = b :: r := by unfold skp; rw [List.dropWhile_cons, if_neg (by rw [ltr_nb h.1]; decide)]
      have e2 : (b :: r).takeWhile goB = b :: r := tw_all (fun x hx => by
        rcases List.mem_cons.1 hx with rfl | hx
        · exact ltr_go h.1
        · exact h.2 x hx)
      unfold wdN
      rw [e]
      simp only
      rw [if_pos h.1, e2]
      exact ⟨by simp, rfl, by unfold ps; simp only; omega⟩
  · rintro ⟨h0, h1, h2⟩
    unfold wdN at h1
    split at h1
    · exact absurd h1.symm h0
    · rename_i b r e
      split at h1
      · rename_i hb
        simp only at h1
        have hl := congrArg List.length h1
        have l1 := (skp_suf l).length_le
        have l2 := (List.takeWhile_prefix goB (l := b :: r)).length_le
        rw [e] at l1
        have e3 : b :: r = l := by
          have := (skp_suf l).eq_of_length (by rw [e]; omega)
          rw [← this, e]
        rw [← e3]
        simp only [nameL, Bool.and_eq_true, List.all_eq_true]
        refine ⟨hb, fun x hx => ?_⟩
        have : x ∈ (b :: r).takeWhile goB := by rw [h1, ← e3]; simp [hx]
        exact mem_tw this
      · exact absurd h1.symm h0
theorem rIsName_ok (l : List UInt8) (hl : l.length ≤ 1000000) : Ok Tryd.prog 26 [vS (bA l)] (vB (nameL l)) := by
  have c0 := word_ok l hl
  have hn := name_wd l
  generalize wdN l = w at *
  refine Ok.of_pwp (by kernel_rfl) Tryd.func26 rfl (by kernel_rfl) (by kernel_rfl) ?_
  by_cases h0 : l = []
  · rw [Bool.eq_false_iff.2 (fun q => (hn.1 q).1 h0)]
    subst h0
    have h0 : True := trivial
    have h1 : True := trivial
    have h2 : True := trivial
    simp (implicitDefEqProofs := false) (disch := omega) only [go_sem, simprocAttr, go_sem, Nat.le_refl, Int.toNat_natCast, Int.toNat_zero, Int.toNat_one, str_eq, sz_bA, tl_bA, Tryd.results26, h0, h1, h2]
    with_reducible refine CallOk.of c0 rfl ?_
    simp (implicitDefEqProofs := false) (disch := omega) only [go_sem, simprocAttr, go_sem, Nat.le_refl, Int.toNat_natCast, Int.toNat_zero, Int.toNat_one, str_eq, sz_bA, tl_bA, Tryd.results26, h0, h1, h2]
    try (first | done | omega | exact dT (by omega) | exact dF (by omega))
  by_cases h1 : w.1 = l
  · by_cases h2 : w.2 = l.length
    · rw [hn.2 ⟨h0, h1, h2⟩]
      simp (implicitDefEqProofs := false) (disch := omega) only [go_sem, simprocAttr, go_sem, Nat.le_refl, Int.toNat_natCast, Int.toNat_zero, Int.toNat_one, str_eq, sz_bA, tl_bA, Tryd.results26, h0, h1, h2]
      with_reducible refine CallOk.of c0 rfl ?_
      simp (implicitDefEqProofs := false) (disch := omega) only [go_sem, simprocAttr, go_sem, Nat.le_refl, Int.toNat_natCast, Int.toNat_zero, Int.toNat_one, str_eq, sz_bA, tl_bA, Tryd.results26, h0, h1, h2]
      try (first | done | omega | exact dT (by omega) | exact dF (by omega))
    · rw [Bool.eq_false_iff.2 (fun q => h2 (hn.1 q).2.2)]
      simp (implicitDefEqProofs := false) (disch := omega) only [go_sem, simprocAttr, go_sem, Nat.le_refl, Int.toNat_natCast, Int.toNat_zero, Int.toNat_one, str_eq, sz_bA, tl_bA, Tryd.results26, h0, h1, h2]
      with_reducible refine CallOk.of c0 rfl ?_
      simp (implicitDefEqProofs := false) (disch := omega) only [go_sem, simprocAttr, go_sem, Nat.le_refl, Int.toNat_natCast, Int.toNat_zero, Int.toNat_one, str_eq, sz_bA, tl_bA, Tryd.results26, h0, h1, h2]
      try (first | done | omega | exact dT (by omega) | exact dF (by omega))
  · rw [Bool.eq_false_iff.2 (fun q => h1 (hn.1 q).2.1)]
    have h2 : True := trivial
    simp (implicitDefEqProofs := false) (disch := omega) only [go_sem, simprocAttr, go_sem, Nat.le_refl, Int.toNat_natCast, Int.toNat_zero, Int.toNat_one, str_eq, sz_bA, tl_bA, Tryd.results26, h0, h1, h2]
    with_reducible refine CallOk.of c0 rfl ?_
    simp (implicitDefEqProofs := false) (disch := omega) only [go_sem, simprocAttr, go_sem, Nat.le_refl, Int.toNat_natCast, Int.toNat_zero, Int.toNat_one, str_eq, sz_bA, tl_bA, Tryd.results26, h0, h1, h2]
    try (first | done | omega | exact dT (by omega) | exact dF (by omega))
end Go.Proofs.YtegehnojbfedlaaDoor
