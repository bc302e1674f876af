/-
  Contracts and plain laws on the way to the statement; each says its own conditions.
-/
import Derived.Test.YtppefmkknmdfkaaDoorN13
open Go Go.Proofs Go.Pw
namespace Go.Proofs.YtppefmkknmdfkaaDoor
set_option maxRecDepth 4000
set_option linter.unusedSimpArgs false
set_option linter.unusedVariables false
theorem mul_sign (a b : Int) : (decide (a < 0) = decide (b < 0) → 0 ≤ a * b) ∧ (decide (a < 0) ≠ decide (b < 0) → a * b ≤ 0) := by
  constructor
  · intro h
    have h' := decide_eq_decide.1 h
    by_cases ha : a < 0
    · exact Int.mul_nonneg_of_nonpos_of_nonpos (by omega) (by omega)
    · exact Int.mul_nonneg (by omega) (by omega)
  · intro h
    rw [ne_eq, decide_eq_decide] at h
    by_cases ha : a < 0
    · exact Int.mul_nonpos_of_nonpos_of_nonneg (by omega) (by omega)
    · exact Int.mul_nonpos_of_nonneg_of_nonpos (by omega) (by omega)
def mulG (a : List Int) (f : Int) : Nat → List Int × Int
  | 0 => ([], 0)
  | k + 1 => ((mulG a f k).1 ++ [(a.getD k 0 * f + (mulG a f k).2) % 10000], (a.getD k 0 * f + (mulG a f k).2) / 10000)
theorem valF_append (l m : List Int) : valF (l ++ m) = valF l + 10000 ^ l.length * valF m := by
  induction l with
  | nil => simp [valF]
  | cons x r ih =>
    rw [List.cons_append, valF, ih, valF, List.length_cons, Int.pow_succ, Int.mul_comm (10000 ^ r.length) 10000, Int.mul_assoc]
    omega
theorem valF_one (x : Int) : valF [x] = x := by simp [valF]
theorem valF_zeros : ∀ i, valF (List.replicate i (0 : Int)) = 0
  | 0 => rfl
  | i + 1 => by rw [List.replicate_succ, valF, valF_zeros i]; rfl
theorem mulG_ok {a : List Int} (hA : Digs a) {f : Int} (h0 : 0 ≤ f) (h1 : f ≤ 9999) : ∀ k, k ≤ a.length → (mulG a f k).1.length = k ∧ Digs (mulG a f k).1 ∧ 0 ≤ (mulG a f k).2 ∧ (mulG a f k).2 ≤ 9999 ∧
    valF (mulG a f k).1 + 10000 ^ k * (mulG a f k).2 = f * valF (a.take k)
  | 0, _ => by simp [mulG, valF, Digs]
  | k + 1, hk => by
    obtain ⟨g1, g2, g3, g4, g5⟩ := mulG_ok hA h0 h1 k (by omega)
    have gd := hA.get k
    have hp : 0 ≤ a.getD k 0 * f := Int.mul_nonneg gd.1 h0
    have hp2 : a.getD k 0 * f ≤ 9999 * 9999 := by
      have i1 : a.getD k 0 * f ≤ 9999 * f := Int.mul_le_mul_of_nonneg_right gd.2 h0
      omega
    refine ⟨by simp [mulG, g1], fun x hx => ?_, by simp only [mulG]; omega, by simp only [mulG]; omega, ?_⟩
    · simp only [mulG] at hx
      rcases List.mem_append.1 hx with hx | hx
      · exact g2 x hx
      · obtain rfl := List.mem_singleton.1 hx
        omega
    · simp only [mulG]
      rw [take_snoc (by omega), valF_app, valF_append, valF_one, g1, List.length_take, Nat.min_eq_left (by omega), Int.mul_add, ← g5, Int.pow_succ]
      have hd := Int.emod_add_mul_ediv (a.getD k 0 * f + (mulG a f k).2) 10000
      generalize (a.getD k 0 * f + (mulG a f k).2) % 10000 = u at *
      generalize (a.getD k 0 * f + (mulG a f k).2) / 10000 = v at *
      have e1 : (10000 : Int) ^ k * 10000 * v = 10000 ^ k * (10000 * v) := Int.mul_assoc _ _ _
      have e2 : f * (10000 ^ k * a.getD k 0) = 10000 ^ k * (a.getD k 0 * f) := by rw [Int.mul_comm f, Int.mul_assoc]
      have e3 : u + 10000 * v = a.getD k 0 * f + (mulG a f k).2 := hd
      rw [e1, e2, Int.add_assoc, ← Int.mul_add, e3, Int.mul_add]
      omega
def mulRow (a : List Int) (f : Int) (i : Nat) : List Int := List.replicate i 0 ++ (mulG a f a.length).1 ++ [(mulG a f a.length).2]
theorem mulRow_ok {a : List Int} (hA : Digs a) {f : Int} (h0 : 0 ≤ f) (h1 : f ≤ 9999) (i : Nat) : (mulRow a f i).length = i + a.length + 1 ∧ Digs (mulRow a f i) ∧ valF (mulRow a f i) = 10000 ^ i * (f * valF a) := by
  obtain ⟨g1, g2, g3, g4, g5⟩ := mulG_ok hA h0 h1 a.length (Nat.le_refl _)
  refine ⟨by simp [mulRow, g1]; omega, fun x hx => ?_, ?_⟩
  · simp only [mulRow, List.mem_append, List.mem_replicate, List.mem_singleton] at hx
    rcases hx with (⟨_, rfl⟩ | hx) | rfl
    · decide
    · exact g2 x hx
    · exact ⟨g3, g4⟩
  · rw [List.take_length] at g5
    rw [mulRow, List.append_assoc, valF_append, valF_zeros, valF_append, valF_one, g1, List.length_replicate, g5]
    omega
theorem valF_fg {a : List Int} (hA : Digs a) : Fg a.length (valF a) := by
  have h1 := valF_nonneg hA
  have h2 := valF_lt hA
  unfold Fg
  have : ((10000 ^ a.length : Nat) : Int) = (10000 : Int) ^ a.length := by simp
  omega
def outP : Nat → Int → PV
  | 0, _ => vNil
  | _ + 1, v => .sl (encI (figs v.natAbs))
theorem fz_outP {i : Nat} {v : Int} (h : i = 0 → v = 0) : fz (outP i v) = some (.sl (encI (figs v.natAbs))) := by
  cases i with
  | zero => rw [h rfl]; simp [outP, fz, figs_zero, encI]
  | succ i => rfl
theorem outP_lt (a b i : Nat) (v : Int) : PV.lt a b (outP i v) = true := by cases i <;> rfl
theorem fz_vB (b : Bool) : fz (vB b) = some (vB b) := rfl
theorem fz_sl (xs : List (List PV)) : fz (.sl xs) = some (.sl xs) := rfl
theorem out_fz {i : Nat} {v w : Int} (h0 : 0 ≤ v) (h : i = 0 → v = 0) : fzAs [.agg [vB false, outP i v], repN w] = some [repN v, repN w] := by
  have e : decide (v < 0) = false := decide_eq_false (by omega)
  simp only [fzAs, fzA, fzL, fz_outP h, fz_vB, fz_sl, repN, e, Option.map]
theorem clean_row {l : List Int} (h : Digs l) (hl : l.length ≤ 1000000) : Ok Tryd.prog 25 [.agg [vB false, .sl (encI l)]] (repN (valF l)) := by
  have h1 := clean_ok false l hl
  have h2 := clean_rep false h
  unfold cleanF at h2
  rw [h2] at h1
  exact h1
def mulS (x y : Bool) (a b : List Int) (i : Nat) : PS :=
  ⟨[(15, vI i), (14, vI b.length), (5, .ptr 4 0), (4, .ptr 2 0), (3, .ptr 1 0), (2, .ptr 0 0)],
   [(4, .box 28 [vB false, outP i (valF a * valF (b.take i))]), (2, .box 28 [vB false, vNil]), (1, .box 28 [vB y, .sl (encI b)]), (0, .box 28 [vB x, .sl (encI a)])], [], 10, 10⟩
def mkI (i : Nat) : List PV := List.map (fun i => [PV.val (Value.int IntKind.i64 0)].getD (i % 1) (PV.val Value.nilIface)) (List.range i)
theorem mkI_def (i : Nat) : List.map (fun i => [PV.val (Value.int IntKind.i64 0)].getD (i % 1) (PV.val Value.nilIface)) (List.range i) = mkI i := rfl
theorem mkI_len (i : Nat) : (mkI i).length = i := by simp [mkI]
theorem mkI_eq (i : Nat) : mkI i = List.replicate i (vI 0) := by
  unfold mkI
  rw [List.eq_replicate_iff]
  refine ⟨by simp, fun b hb => ?_⟩
  obtain ⟨j, _, rfl⟩ := List.mem_map.1 hb
  rw [Nat.mod_one]; rfl
theorem mkI_lt (a b : Nat) : ∀ i, PV.ltL a b (mkI i) = true := fun i => by
  rw [mkI_eq]
  induction i with
  | zero => rfl
  | succ i ih => rw [List.replicate_succ, PV.ltL, ih]; rfl
theorem mkI_chunks (i : Nat) : chunks 1 i (mkI i) = encI (List.replicate i 0) := by
  rw [mkI_eq]
  unfold chunks encI
  apply List.ext_getElem?
  intro j
  rw [List.getElem?_map, List.getElem?_map]
  by_cases h : j < i
  · rw [List.getElem?_range h, List.getElem?_replicate, if_pos h]
    simp only [Option.map_some, Nat.mul_one, List.drop_replicate]
    rw [show i - j = (i - j - 1) + 1 by omega, List.replicate_succ]
    rfl
  · rw [List.getElem?_eq_none (by simpa using h), List.getElem?_eq_none (by simpa using h)]
    rfl
theorem fz_encI : ∀ (l : List Int), fzLL (encI l) = some (encI l)
  | [] => rfl
  | x :: r => by
    have ih := fz_encI r
    unfold encI at ih ⊢
    rw [List.map_cons, fzLL, ih]
    rfl
theorem encI_all' (l : List Int) : (∀ x ∈ encI l, x.length = 1) = True := eq_true (fun x hx => by
  obtain ⟨n, _, rfl⟩ := List.mem_map.1 hx
  rfl)
theorem encI_all (l : List Int) : ∀ x ∈ encI l, x.length = 1 := by
  intro x hx
  obtain ⟨n, _, rfl⟩ := List.mem_map.1 hx
  rfl
def mulT (x y : Bool) (a b : List Int) (i : Nat) (tk : Nat) : Nat → PS
  | 0 => ⟨[(23, vI 0), (22, vI a.length), (8, vI 0), (7, .ms 14 0 i i), (6, vI i), (15, vI i), (14, vI b.length), (5, .ptr 4 0), (4, .ptr 2 0), (3, .ptr 1 0), (2, .ptr 0 0)],
   [(14, .box 3 (mkI i)), (4, .box 28 [vB false, outP i (valF a * valF (b.take i))]), (2, .box 28 [vB false, vNil]), (1, .box 28 [vB y, .sl (encI b)]), (0, .box 28 [vB x, .sl (encI a)])], [], 21, 21⟩
  | k + 1 => ⟨[(23, vI (k + 1 : Nat)), (22, vI a.length), (8, vI (mulG a (b.getD i 0) (k + 1)).2), (7, .row tk (encI (List.replicate i 0 ++ (mulG a (b.getD i 0) (k + 1)).1))), (6, vI i), (15, vI i), (14, vI b.length), (5, .ptr 4 0), (4, .ptr 2 0), (3, .ptr 1 0), (2, .ptr 0 0)],
   [(4, .box 28 [vB false, outP i (valF a * valF (b.take i))]), (2, .box 28 [vB false, vNil]), (1, .box 28 [vB y, .sl (encI b)]), (0, .box 28 [vB x, .sl (encI a)])], [(tk, ⟨3, 1, i + (k + 1)⟩)], 21, tk + 1⟩
set_option maxHeartbeats 4000000 in
theorem mul_ok (x y : Bool) (a b : List Int) (hA : Digs a) (hB : Digs b) (la : a.length + b.length ≤ 9000) : Ok Tryd.prog 27 [.agg [vB x, .sl (encI a)], .agg [vB y, .sl (encI b)]] (cleanF (!(x == y)) (figs (valF a * valF b).natAbs)) := by
  have va := valF_nonneg hA
  have hq : Fg (a.length + b.length) (valF a * valF b) := (valF_fg hA).mul (valF_fg hB)
  refine Ok.of_pwp (by kernel_rfl) Tryd.func27 rfl (by kernel_rfl) (by kernel_rfl) ?_
  simp (implicitDefEqProofs := false) (disch := omega) only [go_sem, reduceCtorEq, Nat.reduceEqDiff, Nat.reduceBEq, ↓reduceIte, Nat.reduceGT, Nat.reduceAdd, Int.reduceEq, Int.reduceLT, Int.reduceLE, Int.reduceNeg, Int.reduceAdd, Int.reduceSub, Int.reduceMul, Int.reduceDiv, Int.reduceMod, Nat.reduceLT, Nat.reduceLeDiff, Nat.reduceMul, Nat.reduceSub, Int.reduceToNat, go_sem, Nat.le_refl, ↓ix_enc, encI_len, encI_take, tmodE, tdivE, mkI_len, mkI_chunks, fz_encI, Nat.mul_one, Nat.le_add_right, encI_all', List.length_replicate, Int.toNat_natCast, encI_snoc, mkI_def, List.length_append, Int.natCast_zero]
  refine p_loop (ι := { i : Nat // i ≤ b.length }) (fun i => mulS x y a b i.1) (fun i => b.length - i.1) ⟨0, Nat.zero_le _⟩ ?_ ?_
  · simp only [mulS, outP, Int.natCast_zero]
    refine ⟨?_, ?_, ?_, ?_, ?_, ?_, ?_⟩ <;> simp only [mem_cons_, mem_nil_, lkp, hold_eq, b_some, frz_self, frz1_self, frzL_self, frzO_self, frzO_box, frzO_iter, frzL_cons, frzL_nil, frz_agg, frz1_row, frz1_nil, frz1_val, frz1_sl, frz1_rr, frz1_ptr, frz1_ms, frz_val, frz_sl, frz_row, frz_ptr, frz_ms, frz_fp, frz_tup, frz_fn, PV.lt, PV.ltL, PObj.lt, decide_true, Bool.true_and, Bool.and_true, Bool.and_self, Nat.reduceLT, Nat.reduceLeDiff, Nat.reduceEqDiff, if_true, if_false, ↓reduceIte, and_true, true_and, Nat.zero_le, reduceCtorEq, eq_self]
  · rintro ⟨i, hi⟩
    simp only [mulS]
    simp (implicitDefEqProofs := false) (disch := omega) only [go_sem, reduceCtorEq, Nat.reduceEqDiff, Nat.reduceBEq, ↓reduceIte, Nat.reduceGT, Nat.reduceAdd, Int.reduceEq, Int.reduceLT, Int.reduceLE, Int.reduceNeg, Int.reduceAdd, Int.reduceSub, Int.reduceMul, Int.reduceDiv, Int.reduceMod, Nat.reduceLT, Nat.reduceLeDiff, Nat.reduceMul, Nat.reduceSub, Int.reduceToNat, go_sem, Nat.le_refl, ↓ix_enc, encI_len, encI_take, tmodE, tdivE, mkI_len, mkI_chunks, fz_encI, Nat.mul_one, Nat.le_add_right, encI_all', List.length_replicate, Int.toNat_natCast, encI_snoc, mkI_def, List.length_append, Int.natCast_zero]
    with_reducible refine ifK_split (fun hlt => ?_) (fun hge => ?_)
    · have gB := hB.get i
      have hlt' : i < b.length := by omega
      have vnn : 0 ≤ valF a * valF (b.take i) := Int.mul_nonneg va (valF_nonneg (hB.take i))
      have vz : i = 0 → valF a * valF (b.take i) = 0 := fun e => by subst e; simp [valF]
      have vstep : valF a * valF (b.take i) + 10000 ^ i * (b.getD i 0 * valF a) = valF a * valF (b.take (i + 1)) := by
        rw [take_snoc hlt', valF_app, List.length_take, Nat.min_eq_left (by omega), Int.mul_add]
        congr 1
        rw [Int.mul_comm (b.getD i 0), ← Int.mul_assoc, Int.mul_comm _ (valF a), Int.mul_assoc]
      have lt1 : (b.take i).length ≤ b.length := by rw [List.length_take]; omega
      have lt2 : (b.take (i + 1)).length ≤ b.length := by rw [List.length_take]; omega
      have f1 : Fg (a.length + b.length) (valF a * valF (b.take i)) := ((valF_fg hA).mul (valF_fg (hB.take i))).mono (by omega)
      have f2 : Fg (a.length + b.length) (valF a * valF (b.take (i + 1))) := ((valF_fg hA).mul (valF_fg (hB.take (i + 1)))).mono (by omega)
      have wnn : 0 ≤ 10000 ^ i * (b.getD i 0 * valF a) := Int.mul_nonneg (Int.pow_nonneg (by decide)) (Int.mul_nonneg gB.1 va)
      have f3 : Fg (a.length + b.length) (10000 ^ i * (b.getD i 0 * valF a)) := by unfold Fg at f2 ⊢; omega
      have sm : Sm (valF a * valF (b.take i)) := f1.sm la
      have sm2 : Sm (10000 ^ i * (b.getD i 0 * valF a)) := f3.sm la
      have vpos : decide (valF a * valF (b.take i) + 10000 ^ i * (b.getD i 0 * valF a) < 0) = false := decide_eq_false (by omega)
      rw [vstep] at vpos
      simp (implicitDefEqProofs := false) (disch := omega) only [go_sem, reduceCtorEq, Nat.reduceEqDiff, Nat.reduceBEq, ↓reduceIte, Nat.reduceGT, Nat.reduceAdd, Int.reduceEq, Int.reduceLT, Int.reduceLE, Int.reduceNeg, Int.reduceAdd, Int.reduceSub, Int.reduceMul, Int.reduceDiv, Int.reduceMod, Nat.reduceLT, Nat.reduceLeDiff, Nat.reduceMul, Nat.reduceSub, Int.reduceToNat, go_sem, Nat.le_refl, ↓ix_enc, encI_len, encI_take, tmodE, tdivE, mkI_len, mkI_chunks, fz_encI, Nat.mul_one, Nat.le_add_right, encI_all', List.length_replicate, Int.toNat_natCast, encI_snoc, mkI_def, List.length_append, Int.natCast_zero]
      refine p_loop (ι := { p : Nat × Nat // p.1 ≤ a.length ∧ 20 ≤ p.2 }) (fun p => mulT x y a b i p.1.2 p.1.1) (fun p => a.length - p.1.1) ⟨(0, 20), Nat.zero_le _, Nat.le_refl _⟩ ?_ ?_
      · simp only [mulT]
        refine ⟨?_, ?_, ?_, ?_, ?_, ?_, ?_⟩ <;> simp only [mem_cons_, mem_nil_, lkp, hold_eq, b_some, frz_self, frz1_self, frzL_self, frzO_self, frzO_box, frzO_iter, frzL_cons, frzL_nil, frz_agg, frz1_row, frz1_nil, frz1_val, frz1_sl, frz1_rr, frz1_ptr, frz1_ms, frz_val, frz_sl, frz_row, frz_ptr, frz_ms, frz_fp, frz_tup, frz_fn, PV.lt, PV.ltL, PObj.lt, decide_true, Bool.true_and, Bool.and_true, Bool.and_self, Nat.reduceLT, Nat.reduceLeDiff, Nat.reduceEqDiff, if_true, if_false, ↓reduceIte, and_true, true_and, Nat.zero_le, reduceCtorEq, eq_self, decide_eq_true_eq, mkI_lt, outP_lt] <;> try first | omega | ((repeat' (first | exact And.intro rfl (by omega) | (refine And.intro ?_ ?_))) <;> first | rfl | omega | (congr 3; omega) | (congr 2; omega))
      · rintro ⟨⟨k, tk⟩, hk, htk⟩
        simp only at hk htk ⊢
        obtain ⟨g1, g2, g3, g4, g5⟩ := mulG_ok hA gB.1 gB.2 k hk
        have gd := hA.get k
        have hp : 0 ≤ a.getD k 0 * b.getD i 0 := Int.mul_nonneg gd.1 gB.1
        have hp2 : a.getD k 0 * b.getD i 0 ≤ 9999 * 9999 := by
          have i1 : a.getD k 0 * b.getD i 0 ≤ 9999 * b.getD i 0 := Int.mul_le_mul_of_nonneg_right gd.2 gB.1
          omega
        cases k with
        | zero =>
          simp only [mulT]
          simp (implicitDefEqProofs := false) (disch := omega) only [go_sem, reduceCtorEq, Nat.reduceEqDiff, Nat.reduceBEq, ↓reduceIte, Nat.reduceGT, Nat.reduceAdd, Int.reduceEq, Int.reduceLT, Int.reduceLE, Int.reduceNeg, Int.reduceAdd, Int.reduceSub, Int.reduceMul, Int.reduceDiv, Int.reduceMod, Nat.reduceLT, Nat.reduceLeDiff, Nat.reduceMul, Nat.reduceSub, Int.reduceToNat, go_sem, Nat.le_refl, ↓ix_enc, encI_len, encI_take, tmodE, tdivE, mkI_len, mkI_chunks, fz_encI, Nat.mul_one, Nat.le_add_right, encI_all', List.length_replicate, Int.toNat_natCast, encI_snoc, mkI_def, List.length_append, Int.natCast_zero]
          with_reducible refine ifK_split (fun hlt2 => ?_) (fun hge2 => ?_)
          · simp (implicitDefEqProofs := false) (disch := omega) only [go_sem, reduceCtorEq, Nat.reduceEqDiff, Nat.reduceBEq, ↓reduceIte, Nat.reduceGT, Nat.reduceAdd, Int.reduceEq, Int.reduceLT, Int.reduceLE, Int.reduceNeg, Int.reduceAdd, Int.reduceSub, Int.reduceMul, Int.reduceDiv, Int.reduceMod, Nat.reduceLT, Nat.reduceLeDiff, Nat.reduceMul, Nat.reduceSub, Int.reduceToNat, go_sem, Nat.le_refl, ↓ix_enc, encI_len, encI_take, tmodE, tdivE, mkI_len, mkI_chunks, fz_encI, Nat.mul_one, Nat.le_add_right, encI_all', List.length_replicate, Int.toNat_natCast, encI_snoc, mkI_def, List.length_append, Int.natCast_zero]
            refine ⟨⟨(0 + 1, 42), by simp only; omega, by simp only; omega⟩, by simp only; omega, ?_⟩
            simp only [mulT, mulG, List.nil_append, Int.add_zero]
            refine ⟨?_, ?_, ?_, ?_, ?_, ?_, ?_⟩ <;> simp only [mem_cons_, mem_nil_, lkp, hold_eq, b_some, frz_self, frz1_self, frzL_self, frzO_self, frzO_box, frzO_iter, frzL_cons, frzL_nil, frz_agg, frz1_row, frz1_nil, frz1_val, frz1_sl, frz1_rr, frz1_ptr, frz1_ms, frz_val, frz_sl, frz_row, frz_ptr, frz_ms, frz_fp, frz_tup, frz_fn, PV.lt, PV.ltL, PObj.lt, decide_true, Bool.true_and, Bool.and_true, Bool.and_self, Nat.reduceLT, Nat.reduceLeDiff, Nat.reduceEqDiff, if_true, if_false, ↓reduceIte, and_true, true_and, Nat.zero_le, reduceCtorEq, eq_self, decide_eq_true_eq, mkI_lt, outP_lt, Int.zero_add, Int.natCast_zero] <;> try first | omega | ((repeat' (first | exact And.intro rfl (by omega) | (refine And.intro ?_ ?_))) <;> first | rfl | omega | (congr 3; omega) | (congr 2; omega))
          · simp (implicitDefEqProofs := false) (disch := omega) only [go_sem, reduceCtorEq, Nat.reduceEqDiff, Nat.reduceBEq, ↓reduceIte, Nat.reduceGT, Nat.reduceAdd, Int.reduceEq, Int.reduceLT, Int.reduceLE, Int.reduceNeg, Int.reduceAdd, Int.reduceSub, Int.reduceMul, Int.reduceDiv, Int.reduceMod, Nat.reduceLT, Nat.reduceLeDiff, Nat.reduceMul, Nat.reduceSub, Int.reduceToNat, go_sem, Nat.le_refl, ↓ix_enc, encI_len, encI_take, tmodE, tdivE, mkI_len, mkI_chunks, fz_encI, Nat.mul_one, Nat.le_add_right, encI_all', List.length_replicate, Int.toNat_natCast, encI_snoc, mkI_def, List.length_append, Int.natCast_zero]
            have rw_ := mulRow_ok hA gB.1 gB.2 i
            have ha0 : a.length = 0 := by omega
            have er : mulRow a (b.getD i 0) i = List.replicate i 0 ++ [0] := by simp only [mulRow, ha0, mulG, List.append_nil]
            rw [er, ha0] at rw_
            obtain ⟨w1, w2, w3⟩ := rw_
            have cr := clean_row w2 (by omega)
            rw [w3] at cr
            with_reducible refine CallOk.of cr rfl ?_
            simp (implicitDefEqProofs := false) (disch := omega) only [go_sem, reduceCtorEq, Nat.reduceEqDiff, Nat.reduceBEq, ↓reduceIte, Nat.reduceGT, Nat.reduceAdd, Int.reduceEq, Int.reduceLT, Int.reduceLE, Int.reduceNeg, Int.reduceAdd, Int.reduceSub, Int.reduceMul, Int.reduceDiv, Int.reduceMod, Nat.reduceLT, Nat.reduceLeDiff, Nat.reduceMul, Nat.reduceSub, Int.reduceToNat, go_sem, Nat.le_refl, ↓ix_enc, encI_len, encI_take, tmodE, tdivE, mkI_len, mkI_chunks, fz_encI, Nat.mul_one, Nat.le_add_right, encI_all', List.length_replicate, Int.toNat_natCast, encI_snoc, mkI_def, List.length_append, Int.natCast_zero]
            have ar := add_rep (valF a * valF (b.take i)) (10000 ^ i * (b.getD i 0 * valF a)) sm sm2
            with_reducible refine CallOk.of ar (out_fz vnn vz) ?_
            rw [vstep]
            simp only [repN]
            simp (implicitDefEqProofs := false) (disch := omega) only [go_sem, reduceCtorEq, Nat.reduceEqDiff, Nat.reduceBEq, ↓reduceIte, Nat.reduceGT, Nat.reduceAdd, Int.reduceEq, Int.reduceLT, Int.reduceLE, Int.reduceNeg, Int.reduceAdd, Int.reduceSub, Int.reduceMul, Int.reduceDiv, Int.reduceMod, Nat.reduceLT, Nat.reduceLeDiff, Nat.reduceMul, Nat.reduceSub, Int.reduceToNat, go_sem, Nat.le_refl, ↓ix_enc, encI_len, encI_take, tmodE, tdivE, mkI_len, mkI_chunks, fz_encI, Nat.mul_one, Nat.le_add_right, encI_all', List.length_replicate, Int.toNat_natCast, encI_snoc, mkI_def, List.length_append, Int.natCast_zero]
            refine ⟨⟨i + 1, by omega⟩, by simp only; omega, ?_⟩
            simp only [mulS, outP]
            refine ⟨?_, ?_, ?_, ?_, ?_, ?_, ?_⟩ <;> simp only [mem_cons_, mem_nil_, lkp, hold_eq, b_some, frz_self, frz1_self, frzL_self, frzO_self, frzO_box, frzO_iter, frzL_cons, frzL_nil, frz_agg, frz1_row, frz1_nil, frz1_val, frz1_sl, frz1_rr, frz1_ptr, frz1_ms, frz_val, frz_sl, frz_row, frz_ptr, frz_ms, frz_fp, frz_tup, frz_fn, PV.lt, PV.ltL, PObj.lt, decide_true, Bool.true_and, Bool.and_true, Bool.and_self, Nat.reduceLT, Nat.reduceLeDiff, Nat.reduceEqDiff, if_true, if_false, ↓reduceIte, and_true, true_and, Nat.zero_le, reduceCtorEq, eq_self, decide_eq_true_eq, vpos, Int.natCast_add, Int.natCast_one] <;> try first | omega | ((repeat' (first | exact And.intro rfl (by omega) | (refine And.intro ?_ ?_))) <;> first | rfl | omega | (congr 3; omega) | (congr 2; omega))
        | succ k =>
          simp only [mulT]
          simp (implicitDefEqProofs := false) (disch := omega) only [go_sem, reduceCtorEq, Nat.reduceEqDiff, Nat.reduceBEq, ↓reduceIte, Nat.reduceGT, Nat.reduceAdd, Int.reduceEq, Int.reduceLT, Int.reduceLE, Int.reduceNeg, Int.reduceAdd, Int.reduceSub, Int.reduceMul, Int.reduceDiv, Int.reduceMod, Nat.reduceLT, Nat.reduceLeDiff, Nat.reduceMul, Nat.reduceSub, Int.reduceToNat, go_sem, Nat.le_refl, ↓ix_enc, encI_len, encI_take, tmodE, tdivE, mkI_len, mkI_chunks, fz_encI, Nat.mul_one, Nat.le_add_right, encI_all', List.length_replicate, Int.toNat_natCast, encI_snoc, mkI_def, List.length_append, Int.natCast_zero]
          with_reducible refine ifK_split (fun hlt2 => ?_) (fun hge2 => ?_)
          · simp (implicitDefEqProofs := false) (disch := omega) only [go_sem, reduceCtorEq, Nat.reduceEqDiff, Nat.reduceBEq, ↓reduceIte, Nat.reduceGT, Nat.reduceAdd, Int.reduceEq, Int.reduceLT, Int.reduceLE, Int.reduceNeg, Int.reduceAdd, Int.reduceSub, Int.reduceMul, Int.reduceDiv, Int.reduceMod, Nat.reduceLT, Nat.reduceLeDiff, Nat.reduceMul, Nat.reduceSub, Int.reduceToNat, go_sem, Nat.le_refl, ↓ix_enc, encI_len, encI_take, tmodE, tdivE, mkI_len, mkI_chunks, fz_encI, Nat.mul_one, Nat.le_add_right, encI_all', List.length_replicate, Int.toNat_natCast, encI_snoc, mkI_def, List.length_append, Int.natCast_zero]
            have e1 : (mulG a (b.getD i 0) (k + 1 + 1)).1 = (mulG a (b.getD i 0) (k + 1)).1 ++ [(a.getD (k + 1) 0 * b.getD i 0 + (mulG a (b.getD i 0) (k + 1)).2) % 10000] := rfl
            have e2 : (mulG a (b.getD i 0) (k + 1 + 1)).2 = (a.getD (k + 1) 0 * b.getD i 0 + (mulG a (b.getD i 0) (k + 1)).2) / 10000 := rfl
            refine ⟨⟨(k + 1 + 1, tk), by simp only; omega, by simp only; omega⟩, by simp only; omega, ?_⟩
            simp only [mulT, e1, e2, ← List.append_assoc, encI_snoc, g1]
            refine ⟨?_, ?_, ?_, ?_, ?_, ?_, ?_⟩ <;> simp only [mem_cons_, mem_nil_, lkp, hold_eq, b_some, frz_self, frz1_self, frzL_self, frzO_self, frzO_box, frzO_iter, frzL_cons, frzL_nil, frz_agg, frz1_row, frz1_nil, frz1_val, frz1_sl, frz1_rr, frz1_ptr, frz1_ms, frz_val, frz_sl, frz_row, frz_ptr, frz_ms, frz_fp, frz_tup, frz_fn, PV.lt, PV.ltL, PObj.lt, decide_true, Bool.true_and, Bool.and_true, Bool.and_self, Nat.reduceLT, Nat.reduceLeDiff, Nat.reduceEqDiff, if_true, if_false, ↓reduceIte, and_true, true_and, Nat.zero_le, reduceCtorEq, eq_self, decide_eq_true_eq, mkI_lt, outP_lt, encI_snoc, List.length_append, List.length_replicate, g1, Int.natCast_add, Int.natCast_one, Nat.add_assoc] <;> try first | omega | ((repeat' (first | exact And.intro rfl (by omega) | (refine And.intro ?_ ?_))) <;> first | rfl | omega | (congr 3; omega) | (congr 2; omega))
          · simp (implicitDefEqProofs := false) (disch := omega) only [go_sem, reduceCtorEq, Nat.reduceEqDiff, Nat.reduceBEq, ↓reduceIte, Nat.reduceGT, Nat.reduceAdd, Int.reduceEq, Int.reduceLT, Int.reduceLE, Int.reduceNeg, Int.reduceAdd, Int.reduceSub, Int.reduceMul, Int.reduceDiv, Int.reduceMod, Nat.reduceLT, Nat.reduceLeDiff, Nat.reduceMul, Nat.reduceSub, Int.reduceToNat, go_sem, Nat.le_refl, ↓ix_enc, encI_len, encI_take, tmodE, tdivE, mkI_len, mkI_chunks, fz_encI, Nat.mul_one, Nat.le_add_right, encI_all', List.length_replicate, Int.toNat_natCast, encI_snoc, mkI_def, List.length_append, Int.natCast_zero, g1]
            have rw_ := mulRow_ok hA gB.1 gB.2 i
            have ha0 : a.length = k + 1 := by omega
            have er : mulRow a (b.getD i 0) i = List.replicate i 0 ++ (mulG a (b.getD i 0) (k + 1)).1 ++ [(mulG a (b.getD i 0) (k + 1)).2] := by simp only [mulRow, ha0]
            rw [er, ha0] at rw_
            obtain ⟨w1, w2, w3⟩ := rw_
            have cr := clean_row w2 (by omega)
            rw [w3] at cr
            with_reducible refine CallOk.of cr rfl ?_
            simp (implicitDefEqProofs := false) (disch := omega) only [go_sem, reduceCtorEq, Nat.reduceEqDiff, Nat.reduceBEq, ↓reduceIte, Nat.reduceGT, Nat.reduceAdd, Int.reduceEq, Int.reduceLT, Int.reduceLE, Int.reduceNeg, Int.reduceAdd, Int.reduceSub, Int.reduceMul, Int.reduceDiv, Int.reduceMod, Nat.reduceLT, Nat.reduceLeDiff, Nat.reduceMul, Nat.reduceSub, Int.reduceToNat, go_sem, Nat.le_refl, ↓ix_enc, encI_len, encI_take, tmodE, tdivE, mkI_len, mkI_chunks, fz_encI, Nat.mul_one, Nat.le_add_right, encI_all', List.length_replicate, Int.toNat_natCast, encI_snoc, mkI_def, List.length_append, Int.natCast_zero]
            have ar := add_rep (valF a * valF (b.take i)) (10000 ^ i * (b.getD i 0 * valF a)) sm sm2
            with_reducible refine CallOk.of ar (out_fz vnn vz) ?_
            rw [vstep]
            simp only [repN]
            simp (implicitDefEqProofs := false) (disch := omega) only [go_sem, reduceCtorEq, Nat.reduceEqDiff, Nat.reduceBEq, ↓reduceIte, Nat.reduceGT, Nat.reduceAdd, Int.reduceEq, Int.reduceLT, Int.reduceLE, Int.reduceNeg, Int.reduceAdd, Int.reduceSub, Int.reduceMul, Int.reduceDiv, Int.reduceMod, Nat.reduceLT, Nat.reduceLeDiff, Nat.reduceMul, Nat.reduceSub, Int.reduceToNat, go_sem, Nat.le_refl, ↓ix_enc, encI_len, encI_take, tmodE, tdivE, mkI_len, mkI_chunks, fz_encI, Nat.mul_one, Nat.le_add_right, encI_all', List.length_replicate, Int.toNat_natCast, encI_snoc, mkI_def, List.length_append, Int.natCast_zero]
            refine ⟨⟨i + 1, by omega⟩, by simp only; omega, ?_⟩
            simp only [mulS, outP]
            refine ⟨?_, ?_, ?_, ?_, ?_, ?_, ?_⟩ <;> simp only [mem_cons_, mem_nil_, lkp, hold_eq, b_some, frz_self, frz1_self, frzL_self, frzO_self, frzO_box, frzO_iter, frzL_cons, frzL_nil, frz_agg, frz1_row, frz1_nil, frz1_val, frz1_sl, frz1_rr, frz1_ptr, frz1_ms, frz_val, frz_sl, frz_row, frz_ptr, frz_ms, frz_fp, frz_tup, frz_fn, PV.lt, PV.ltL, PObj.lt, decide_true, Bool.true_and, Bool.and_true, Bool.and_self, Nat.reduceLT, Nat.reduceLeDiff, Nat.reduceEqDiff, if_true, if_false, ↓reduceIte, and_true, true_and, Nat.zero_le, reduceCtorEq, eq_self, decide_eq_true_eq, vpos, Int.natCast_add, Int.natCast_one] <;> try first | omega | ((repeat' (first | exact And.intro rfl (by omega) | (refine And.intro ?_ ?_))) <;> first | rfl | omega | (congr 3; omega) | (congr 2; omega))
    · have hb : i = b.length := by omega
      have cl := clean_ok (!(x == y)) (figs (valF a * valF b).natAbs) (Nat.le_trans (figs_len _ _ hq) (by omega))
      cases i with
      | zero =>
        have hb0 : b = [] := List.length_eq_zero_iff.1 hb.symm
        subst hb0
        have e0 : valF a * valF [] = 0 := by simp [valF]
        rw [e0] at cl ⊢
        simp only [Int.natAbs_zero, figs_zero] at cl
        simp only [outP]
        simp (implicitDefEqProofs := false) (disch := omega) only [go_sem, reduceCtorEq, Nat.reduceEqDiff, Nat.reduceBEq, ↓reduceIte, Nat.reduceGT, Nat.reduceAdd, Int.reduceEq, Int.reduceLT, Int.reduceLE, Int.reduceNeg, Int.reduceAdd, Int.reduceSub, Int.reduceMul, Int.reduceDiv, Int.reduceMod, Nat.reduceLT, Nat.reduceLeDiff, Nat.reduceMul, Nat.reduceSub, Int.reduceToNat, go_sem, Nat.le_refl, ↓ix_enc, encI_len, encI_take, tmodE, tdivE, mkI_len, mkI_chunks, fz_encI, Nat.mul_one, Nat.le_add_right, encI_all', List.length_replicate, Int.toNat_natCast, encI_snoc, mkI_def, List.length_append, Int.natCast_zero, Tryd.results27]
        with_reducible refine CallOk.of cl rfl ?_
        simp (implicitDefEqProofs := false) (disch := omega) only [go_sem, reduceCtorEq, Nat.reduceEqDiff, Nat.reduceBEq, ↓reduceIte, Nat.reduceGT, Nat.reduceAdd, Int.reduceEq, Int.reduceLT, Int.reduceLE, Int.reduceNeg, Int.reduceAdd, Int.reduceSub, Int.reduceMul, Int.reduceDiv, Int.reduceMod, Nat.reduceLT, Nat.reduceLeDiff, Nat.reduceMul, Nat.reduceSub, Int.reduceToNat, go_sem, Nat.le_refl, ↓ix_enc, encI_len, encI_take, tmodE, tdivE, mkI_len, mkI_chunks, fz_encI, Nat.mul_one, Nat.le_add_right, encI_all', List.length_replicate, Int.toNat_natCast, encI_snoc, mkI_def, List.length_append, Int.natCast_zero, Tryd.results27]
        simp [cleanF, figs_zero]
      | succ i =>
        simp only [outP]
        rw [hb, List.take_length]
        simp (implicitDefEqProofs := false) (disch := omega) only [go_sem, reduceCtorEq, Nat.reduceEqDiff, Nat.reduceBEq, ↓reduceIte, Nat.reduceGT, Nat.reduceAdd, Int.reduceEq, Int.reduceLT, Int.reduceLE, Int.reduceNeg, Int.reduceAdd, Int.reduceSub, Int.reduceMul, Int.reduceDiv, Int.reduceMod, Nat.reduceLT, Nat.reduceLeDiff, Nat.reduceMul, Nat.reduceSub, Int.reduceToNat, go_sem, Nat.le_refl, ↓ix_enc, encI_len, encI_take, tmodE, tdivE, mkI_len, mkI_chunks, fz_encI, Nat.mul_one, Nat.le_add_right, encI_all', List.length_replicate, Int.toNat_natCast, encI_snoc, mkI_def, List.length_append, Int.natCast_zero, Tryd.results27]
        with_reducible refine CallOk.of cl rfl ?_
        simp (implicitDefEqProofs := false) (disch := omega) only [go_sem, reduceCtorEq, Nat.reduceEqDiff, Nat.reduceBEq, ↓reduceIte, Nat.reduceGT, Nat.reduceAdd, Int.reduceEq, Int.reduceLT, Int.reduceLE, Int.reduceNeg, Int.reduceAdd, Int.reduceSub, Int.reduceMul, Int.reduceDiv, Int.reduceMod, Nat.reduceLT, Nat.reduceLeDiff, Nat.reduceMul, Nat.reduceSub, Int.reduceToNat, go_sem, Nat.le_refl, ↓ix_enc, encI_len, encI_take, tmodE, tdivE, mkI_len, mkI_chunks, fz_encI, Nat.mul_one, Nat.le_add_right, encI_all', List.length_replicate, Int.toNat_natCast, encI_snoc, mkI_def, List.length_append, Int.natCast_zero, Tryd.results27]
        rfl
theorem mul_rep {j k : Nat} (x y : Int) (hx : Fg j x) (hy : Fg k y) (hk : j + k ≤ 9000) : Ok Tryd.prog 27 [repN x, repN y] (repN (x * y)) := by
  have lx : (figs x.natAbs).length ≤ j := figs_len j _ hx
  have ly : (figs y.natAbs).length ≤ k := figs_len k _ hy
  have h := mul_ok (decide (x < 0)) (decide (y < 0)) _ _ (figs_digs x.natAbs) (figs_digs y.natAbs) (by omega)
  rw [figs_val, figs_val] at h
  rw [clean_rep _ (figs_digs _), figs_val] at h
  have e : (if (!(decide (x < 0) == decide (y < 0))) = true then -(((x.natAbs : Int) * y.natAbs).natAbs : Int) else (((x.natAbs : Int) * y.natAbs).natAbs : Int)) = x * y := by
    have h1 : (x.natAbs : Int) * y.natAbs = ((x * y).natAbs : Int) := by rw [Int.natAbs_mul, Int.natCast_mul]
    obtain ⟨s1, s2⟩ := mul_sign x y
    rw [h1]
    generalize x * y = N at *
    split
    · have := s2 (by simp_all)
      omega
    · have := s1 (by simp_all)
      omega
  rw [e] at h
  exact h
end Go.Proofs.YtppefmkknmdfkaaDoor
