/-
  Contracts and plain laws on the way to the statement; each says its own conditions.
-/
import Derived.Test.YtppefmkknmdfkaaDoorN3
open Go Go.Proofs Go.Pw
namespace Go.Proofs.YtppefmkknmdfkaaDoor
set_option maxRecDepth 4000
set_option linter.unusedSimpArgs false
set_option linter.unusedVariables false
def carry (f : Int) : Int × Int := if 10000 ≤ f then (f - 10000, 1) else if f < 0 then (f + 10000, -1) else (f, 0)
def bothG (a b : List Int) (s : Int) : Nat → Nat → Int → List Int × Int
  | 0, _, o => ([], o)
  | k + 1, i, o =>
    let c := carry (o + a.getD i 0 + s * b.getD i 0)
    let r := bothG a b s k (i + 1) c.2
    (c.1 :: r.1, r.2)
def bothF (a b : List Int) (s : Int) : List Int :=
  let r := bothG a b s (max a.length b.length) 0 0
  if 0 < r.2 then r.1 ++ [r.2] else r.1
def Digs (a : List Int) : Prop := ∀ x ∈ a, 0 ≤ x ∧ x ≤ 9999
theorem Digs.get {a : List Int} (h : Digs a) (i : Nat) : 0 ≤ a.getD i 0 ∧ a.getD i 0 ≤ 9999 := by
  rw [List.getD_eq_getElem?_getD]
  cases hx : a[i]? with
  | none => simp
  | some x => exact h x (List.mem_of_getElem? hx)
def bothS (a b : List Int) (s : Int) (i o : Int) (k : Nat) : List Int → PS
  | [] => ⟨[(0, .sl (encI a)), (1, .sl (encI b)), (2, vI s), (7, .val (.slice none 0 0)), (8, vI o), (9, vI i)], [], [], 0, 4⟩
  | x :: r => ⟨[(0, .sl (encI a)), (1, .sl (encI b)), (2, vI s), (7, .row k (encI (x :: r))), (8, vI o), (9, vI i)], [], [(k, ⟨3, 1, (x :: r).length⟩)], 0, k + 1⟩
theorem bothG_step (a b : List Int) (s : Int) (N i : Nat) (o : Int) (h : i < N) : bothG a b s (N - i) i o = ((carry (o + a.getD i 0 + s * b.getD i 0)).1 :: (bothG a b s (N - (i + 1)) (i + 1) (carry (o + a.getD i 0 + s * b.getD i 0)).2).1, (bothG a b s (N - (i + 1)) (i + 1) (carry (o + a.getD i 0 + s * b.getD i 0)).2).2) := by
  rw [show N - i = (N - (i + 1)) + 1 by omega]
  rfl
theorem getD_none {a : List Int} {i : Nat} (h : a.length ≤ i) : a.getD i 0 = 0 := by
  rw [List.getD_eq_getElem?_getD, List.getElem?_eq_none h]; rfl
structure BothI (a b : List Int) (s : Int) (N : Nat) where
  i : Int
  o : Int
  xs : List Int
  k : Nat
  k1 : 0 ≤ i
  k2 : i ≤ N
  k3 : -1 ≤ o
  k4 : o ≤ 1
  k5 : xs.length = i.toNat
  k6 : bothG a b s N 0 0 = (xs ++ (bothG a b s (N - i.toNat) i.toNat o).1, (bothG a b s (N - i.toNat) i.toNat o).2)
theorem carry_range (f : Int) : -1 ≤ (carry f).2 ∧ (carry f).2 ≤ 1 := by
  unfold carry
  split
  · exact ⟨by simp only []; omega, by simp only []; omega⟩
  · split <;> exact ⟨by simp only []; omega, by simp only []; omega⟩
theorem both_next {a b : List Int} {s : Int} {N : Nat} (J : BothI a b s N) (hlt : J.i < N) {st : PS} {k : Nat} {R : List (List PV)} {d o' i' : Int} (h7 : lkp st.env 7 = some (.row k R)) (h8 : lkp st.env 8 = some (vI o')) (h9 : lkp st.env 9 = some (vI i'))
    (h0 : lkp st.env 0 = some (.sl (encI a))) (h1 : lkp st.env 1 = some (.sl (encI b))) (h2 : lkp st.env 2 = some (vI s)) (hR : R = encI (J.xs ++ [d])) (ht : lkp st.toks k = some ⟨3, 1, J.xs.length + 1⟩) (hn : k + 1 ≤ st.nt) (hi : i' = J.i + 1)
    (hc : carry (J.o + a.getD J.i.toNat 0 + s * b.getD J.i.toNat 0) = (d, o')) : ∃ j : BothI a b s N, N - j.i.toNat < N - J.i.toNat ∧ Weak (0, 0) st (bothS a b s j.i j.o j.k j.xs) := by
  obtain ⟨i, o, xs, kk, k1, k2, k3, k4, k5, k6⟩ := J
  simp only at hlt hR ht hi hc ⊢
  have st1 := bothG_step a b s N i.toNat o (by omega)
  rw [hc] at st1
  have cr := carry_range (o + a.getD i.toNat 0 + s * b.getD i.toNat 0)
  rw [hc] at cr
  have e1 : (i + 1).toNat = i.toNat + 1 := by omega
  refine ⟨⟨i', o', xs ++ [d], k, by omega, by omega, cr.1, cr.2, by rw [hi, e1]; simp [k5], by rw [k6, st1, hi, e1]; simp⟩, by simp only; omega, ?_⟩
  subst hR
  have key : ∀ ys : List Int, ys ≠ [] → bothS a b s i' o' k ys = ⟨[(0, .sl (encI a)), (1, .sl (encI b)), (2, vI s), (7, .row k (encI ys)), (8, vI o'), (9, vI i')], [], [(k, ⟨3, 1, ys.length⟩)], 0, k + 1⟩ := fun ys h => by
    cases ys with
    | nil => exact absurd rfl h
    | cons x r => rfl
  simp only
  rw [key _ (by simp)]
  refine ⟨?_, ?_, ?_, Nat.zero_le _, hn, Nat.zero_le _, Nat.zero_le _⟩
  · simp only [mem_cons_, mem_nil_, h0, h1, h2, h7, h8, h9, hold_eq, b_some, frz_self, PV.lt, and_true, true_and, decide_eq_true_eq, Nat.lt_succ_self]
  · simp only [mem_nil_]
  · simp only [mem_cons_, mem_nil_, ht, List.length_append, List.length_singleton, and_true, true_and, Nat.lt_succ_self]
theorem both_end {a b : List Int} {s : Int} {N : Nat} (J : BothI a b s N) (h : J.i = N) : bothG a b s N 0 0 = (J.xs, J.o) := by
  rw [J.k6, h]
  simp [bothG]
set_option maxHeartbeats 8000000 in
theorem both_ok (a b : List Int) (s : Int) (hs : s = 1 ∨ s = -1) (hA : Digs a) (hB : Digs b) (la : a.length ≤ 100000) (lb : b.length ≤ 100000) : Ok Tryd.prog 37 [.sl (encI a), .sl (encI b), vI s] (.sl (encI (bothF a b s))) := by
  refine Ok.of_pwp (by kernel_rfl) Tryd.func37 rfl (by kernel_rfl) (by kernel_rfl) ?_
  simp (implicitDefEqProofs := false) (disch := omega) only [go_sem, reduceCtorEq, Nat.reduceEqDiff, Nat.reduceBEq, ↓reduceIte, Nat.reduceGT, Nat.reduceAdd, Int.reduceEq, Int.reduceLT, Int.reduceLE, Int.reduceNeg, Int.reduceAdd, Int.reduceSub, Int.reduceMul, Int.reduceDiv, Int.reduceMod, Nat.reduceLT, Nat.reduceLeDiff, Nat.reduceMul, Nat.reduceSub, Int.reduceToNat, go_sem, Nat.le_refl, ↓ix_enc, encI_len, encI_take, Tryd.results37]
  obtain ⟨N, hN⟩ : ∃ N, N = max a.length b.length := ⟨_, rfl⟩
  have hN' : a.length ≤ N ∧ b.length ≤ N ∧ (N = a.length ∨ N = b.length) := by omega
  unfold bothF
  rw [← hN]
  refine p_loop (fun p : BothI a b s N => bothS a b s p.i p.o p.k p.xs) (fun p => (N - p.i.toNat)) ⟨0, 0, [], 0, by decide, by omega, by decide, by decide, rfl, by simp⟩ ?_ ?_
  · simp only [bothS]
    refine ⟨?_, ?_, ?_, ?_, ?_, ?_, ?_⟩ <;> simp only [mem_cons_, mem_nil_, lkp, hold_eq, b_some, frz_self, frz1_self, frzL_self, frzO_self, frzO_box, frzO_iter, frzL_cons, frzL_nil, frz_agg, frz1_row, frz1_nil, frz1_val, frz1_sl, frz1_rr, frz1_ptr, frz1_ms, frz_val, frz_sl, frz_row, frz_ptr, frz_ms, frz_fp, frz_tup, frz_fn, PV.lt, PV.ltL, PObj.lt, decide_true, Bool.true_and, Bool.and_true, Bool.and_self, Nat.reduceLT, Nat.reduceLeDiff, Nat.reduceEqDiff, if_true, if_false, ↓reduceIte, and_true, true_and, Nat.zero_le, reduceCtorEq, eq_self]
  · intro J
    have k1 := J.k1
    have k2 := J.k2
    have k3 := J.k3
    have k4 := J.k4
    have k5 := J.k5
    have k6 := J.k6
    have gA := hA.get J.i.toNat
    have gB := hB.get J.i.toNat
    have nA : ¬ J.i < (a.length : Int) → a.getD J.i.toNat 0 = 0 := fun h => getD_none (by omega)
    have nB : ¬ J.i < (b.length : Int) → b.getD J.i.toNat 0 = 0 := fun h => getD_none (by omega)
    have hb : ∃ st, bothS a b s J.i J.o J.k J.xs = st := ⟨_, rfl⟩
    cases hx : J.xs with
    | nil =>
      have e : bothS a b s J.i J.o J.k [] = ⟨[(0, .sl (encI a)), (1, .sl (encI b)), (2, vI s), (7, .val (.slice none 0 0)), (8, vI J.o), (9, vI J.i)], [], [], 0, 4⟩ := rfl
      simp only [hx]
      rw [e]
      rcases hs with rfl | rfl
      all_goals simp (implicitDefEqProofs := false) (disch := omega) only [go_sem, reduceCtorEq, Nat.reduceEqDiff, Nat.reduceBEq, ↓reduceIte, Nat.reduceGT, Nat.reduceAdd, Int.reduceEq, Int.reduceLT, Int.reduceLE, Int.reduceNeg, Int.reduceAdd, Int.reduceSub, Int.reduceMul, Int.reduceDiv, Int.reduceMod, Nat.reduceLT, Nat.reduceLeDiff, Nat.reduceMul, Nat.reduceSub, Int.reduceToNat, go_sem, Nat.le_refl, ↓ix_enc, encI_len, encI_take, Tryd.results37]
      all_goals repeat' ((first
        | with_reducible refine ifK_split (fun _ => ?_) (fun _ => ?_)
        | with_reducible refine ifK_nsplit (fun _ => ?_) (fun _ => ?_)) <;>
        try simp (implicitDefEqProofs := false) (disch := omega) only [go_sem, reduceCtorEq, Nat.reduceEqDiff, Nat.reduceBEq, ↓reduceIte, Nat.reduceGT, Nat.reduceAdd, Int.reduceEq, Int.reduceLT, Int.reduceLE, Int.reduceNeg, Int.reduceAdd, Int.reduceSub, Int.reduceMul, Int.reduceDiv, Int.reduceMod, Nat.reduceLT, Nat.reduceLeDiff, Nat.reduceMul, Nat.reduceSub, Int.reduceToNat, go_sem, Nat.le_refl, ↓ix_enc, encI_len, encI_take, Tryd.results37])
      all_goals first
        | (refine both_next J (by omega) rfl rfl rfl rfl rfl rfl (by rw [hx]; rfl) (by rw [hx]; rfl) (by simp only []; omega) rfl ?_
           unfold carry
           first
             | (rw [if_pos (by omega)] <;> (congr 1; omega))
             | (rw [if_neg (by omega), if_pos (by omega)] <;> (congr 1; omega))
             | (rw [if_neg (by omega), if_neg (by omega)] <;> (congr 1; omega)))
        | (rw [both_end J (by omega), hx]; simp only []; rw [if_pos (by assumption)]; rfl)
        | (rw [both_end J (by omega), hx]; simp only []; rw [if_neg (by assumption)]; rfl)
    | cons x r =>
      have e : bothS a b s J.i J.o J.k (x :: r) = ⟨[(0, .sl (encI a)), (1, .sl (encI b)), (2, vI s), (7, .row J.k (encI (x :: r))), (8, vI J.o), (9, vI J.i)], [], [(J.k, ⟨3, 1, (x :: r).length⟩)], 0, J.k + 1⟩ := rfl
      have k7 := k5
      rw [hx] at k7
      simp only [List.length_cons] at k7
      simp only [hx]
      rw [e]
      rcases hs with rfl | rfl
      all_goals simp (implicitDefEqProofs := false) (disch := omega) only [go_sem, reduceCtorEq, Nat.reduceEqDiff, Nat.reduceBEq, ↓reduceIte, Nat.reduceGT, Nat.reduceAdd, Int.reduceEq, Int.reduceLT, Int.reduceLE, Int.reduceNeg, Int.reduceAdd, Int.reduceSub, Int.reduceMul, Int.reduceDiv, Int.reduceMod, Nat.reduceLT, Nat.reduceLeDiff, Nat.reduceMul, Nat.reduceSub, Int.reduceToNat, go_sem, Nat.le_refl, ↓ix_enc, encI_len, encI_take, Tryd.results37]
      all_goals repeat' ((first
        | with_reducible refine ifK_split (fun _ => ?_) (fun _ => ?_)
        | with_reducible refine ifK_nsplit (fun _ => ?_) (fun _ => ?_)) <;>
        try simp (implicitDefEqProofs := false) (disch := omega) only [go_sem, reduceCtorEq, Nat.reduceEqDiff, Nat.reduceBEq, ↓reduceIte, Nat.reduceGT, Nat.reduceAdd, Int.reduceEq, Int.reduceLT, Int.reduceLE, Int.reduceNeg, Int.reduceAdd, Int.reduceSub, Int.reduceMul, Int.reduceDiv, Int.reduceMod, Nat.reduceLT, Nat.reduceLeDiff, Nat.reduceMul, Nat.reduceSub, Int.reduceToNat, go_sem, Nat.le_refl, ↓ix_enc, encI_len, encI_take, Tryd.results37])
      all_goals first
        | (refine both_next J (by omega) rfl rfl rfl rfl rfl rfl (by rw [hx]; exact encI_snoc _ _) (by rw [hx]; simp [lkp]) (by simp only []; omega) rfl ?_
           unfold carry
           first
             | (rw [if_pos (by omega)] <;> (congr 1; omega))
             | (rw [if_neg (by omega), if_pos (by omega)] <;> (congr 1; omega))
             | (rw [if_neg (by omega), if_neg (by omega)] <;> (congr 1; omega)))
        | (rw [both_end J (by omega), hx]; simp only []; rw [if_pos (by assumption)]; rw [encI_snoc])
        | (rw [both_end J (by omega), hx]; simp only []; rw [if_neg (by assumption)])
end Go.Proofs.YtppefmkknmdfkaaDoor
