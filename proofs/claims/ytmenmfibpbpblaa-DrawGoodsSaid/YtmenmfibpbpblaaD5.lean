/-
  A made slice of numbers as the argument of a function with a contract; the law DrawGoods.
-/
import Derived.Test.YtmenmfibpbpblaaD3
import Derived.Test.YtmenmfibpbpblaaPwR
import Derived.Lib.Builder
open Go Go.Proofs Go.Pw Go.RowKit
namespace Go.Proofs.Ytmenmfibpbpblaa
set_option linter.unusedVariables false
set_option linter.unusedSimpArgs false
theorem Rel.below_ {own : Nat → Prop} {S0 : Base} {w0 w w' : World} {C : Cx} {U V : Nat → Prop} {st : PS} (R : Rel own S0 w0 C U V st w) (hb : Below w.heap.size w w') : Rel own S0 w0 C U V st w' := by
  have hold : ∀ b, b < w.heap.size → w'.heap[b]? = w.heap[b]? := hb.block
  have lt : ∀ {b : Nat} {x : Obj}, w.heap[b]? = some x → b < w.heap.size := fun h => (Array.getElem?_eq_some_iff.1 h).1
  have hs0 := R.frame.size
  refine ⟨⟨hb.os.trans R.frame.os, hb.tape.trans R.frame.tape, hb.output.trans R.frame.output, Nat.le_trans hs0 hb.size, fun k hk hn => (hold k (by omega)).trans (R.frame.block k hk hn)⟩, ?_, ?_, ?_, ?_, R.hinj, ?_, R.tbox, R.tinj, R.snew, R.sold, R.base⟩
  · intro b o v h
    have h1 := R.stable b o v h
    have hlt : b < w.heap.size := by
      rcases Nat.lt_or_ge b w.heap.size with h' | h'
      · exact h'
      · simp [World.cell?, Array.getElem?_eq_none h'] at h1
    rw [World.cell?_of_block (hold b hlt)]
    exact h1
  · intro id T cs h
    obtain ⟨us, h1, h2, h3⟩ := R.box id T cs h
    exact ⟨us, (hold _ (lt h1)).trans h1, h2, h3⟩
  · intro id s pos h
    have h1 := R.iter id s pos h
    exact (hold _ (lt h1)).trans h1
  · intro id o h
    obtain ⟨h1, h2, h3, h4⟩ := R.hown id o h
    exact ⟨h1, Nat.lt_of_lt_of_le h2 hb.size, h3, h4⟩
  · intro k t h
    obtain ⟨h1, h2, ⟨us, h3, h4⟩, h5⟩ := R.tok k t h
    exact ⟨h1, h2, ⟨us, (hold _ (lt h3)).trans h3, h4⟩, h5⟩
/-- A function with a contract, called with a made slice of numbers; it tells a plain value. -/
theorem OkI.of_ms {P : Program} {g : FuncId} {id : Nat} {T : TypeId} {st : PS} {zs : List Int} {r : Value} (ok : Ok P g [.sl (encI zs)] (.val r)) (ho : lkp st.heap id = some (.box T (zs.map fun n => vI n))) :
    OkI P g [.ms id 0 zs.length zs.length] st (fun r' st' => r' = .val r ∧ st' = st) := by
  refine ⟨ok.1, fun own S0 w0 w C vals R hn hr => ?_⟩
  obtain ⟨vs, hb, hs, hv⟩ := R.box id _ _ ho
  obtain ⟨v, rfl⟩ : ∃ v, vals = #[v] := by
    cases vals with
    | mk l => match l, hn with
      | [v], _ => exact ⟨v, rfl⟩
  obtain ⟨rfl, hU, _⟩ := rep_ms (hr 0 v _ rfl rfl)
  have hrep : RepA (memCells w) (.slice (some ⟨C.ρ id, 0, none⟩) zs.length zs.length) (.sl (encI zs)) := by
    have h := repA_ints (w := w) (k := .i64) (a := ⟨C.ρ id, 0, none⟩) (len := zs.length) (cap := zs.length) (zs := zs) (Nat.le_refl _) rfl (fun i hi => by
      rw [Addr.add_lit, Nat.zero_add, Lib.cell_of_heap hb]
      have hi' : i < vs.size := by rw [hs, List.length_map]; exact hi
      have h1 := Array.getElem?_eq_getElem hi'
      have h2 : (zs.map fun n => vI n)[i]? = some (vI (zs.getD i 0)) := by
        rw [List.getElem?_map, List.getElem?_eq_getElem hi, List.getD_eq_getElem?_getD, List.getElem?_eq_getElem hi]
        rfl
      have h3 := (rep_val (hv i _ _ h1 h2).2).1
      rw [h1, h3])
    rw [List.take_length] at h
    exact h
  refine (ok.2 (memCells w) w #[.slice (some ⟨C.ρ id, 0, none⟩) zs.length zs.length] (memCells_stable w) rfl (fun i v p hv hp => ?_)).mono ?_
  · match i with
    | 0 => simp at hv hp; subst hv hp; exact hrep
    | i + 1 => simp at hp
  · rintro e w' ⟨v, S', rfl, _, _, _, hr', hbel⟩
    obtain ⟨rfl, h1⟩ := rep_val hr'
    exact ⟨.val v, st, v, C, ⟨rfl, rfl⟩, rfl, Rel.below_ R hbel, Ext.refl _ _ _ _, .frz (.val h1)⟩
theorem good_zeros (n : Nat) : goodB (List.replicate n 0) = decide (n ≤ 4096) := by
  unfold goodB
  have : (List.replicate n (0 : Int)).any wrongB = false := by
    rw [List.any_eq_false]
    intro x hx
    rw [(List.mem_replicate.1 hx).2]
    decide
  rw [this, List.length_replicate]
  simp
theorem made_zeros (n : Nat) : ((List.range (n * 1)).map fun i => ([PV.val (Value.int .i64 0)] : List PV).getD (i % 1) (.val .nilIface)) = (List.replicate n (0 : Int)).map fun n => vI n := by
  rw [Nat.mul_one, List.map_replicate]
  apply List.ext_getElem
  · simp
  · intro i h1 h2
    simp [Nat.mod_one]
theorem made_good {id nx nt N : Nat} {T : TypeId} (hN : N ≤ 140737488351232) : OkI Try.prog 9 [.ms id 0 N N] ⟨[], [(id, .box T ((List.replicate N (0 : Int)).map fun n => vI n))], [], nx, nt⟩ (fun r' st' => r' = vB (decide (N ≤ 4096)) ∧ st' = ⟨[], [(id, .box T ((List.replicate N (0 : Int)).map fun n => vI n))], [], nx, nt⟩) := by
  have ok := good_ok (List.replicate N 0) (by rw [List.length_replicate]; exact hN)
  rw [good_zeros] at ok
  have h := OkI.of_ms (id := id) (T := T) (st := ⟨[], [(id, .box T ((List.replicate N (0 : Int)).map fun n => vI n))], [], nx, nt⟩) ok (by simp [lkp])
  rw [List.length_replicate] at h
  exact h
set_option maxHeartbeats 4000000 in
theorem goods_ok (l : List Int) (m : Int) (_hw : ∀ n ∈ l, -9223372036854775808 ≤ n ∧ n ≤ 9223372036854775807) (hl : l.length ≤ 140737488351232) (hm : 0 ≤ m ∧ m ≤ 255) : Ok Try.prog 3 [.sl (encI l), .val (.int .u8 m)] (vB true) := by
  refine Ok.of_pwp (by kernel_rfl) Try.func3 rfl (by kernel_rfl) (by kernel_rfl) ?_
  simp (implicitDefEqProofs := false) (disch := omega) only [go_sem, reduceCtorEq, Nat.reduceEqDiff, Nat.reduceBEq, ↓reduceIte, Nat.reduceGT, Nat.reduceAdd, Int.reduceEq, Int.reduceLT, Int.reduceLE, Int.reduceNeg, Int.reduceAdd, Int.reduceSub, Int.reduceMul, Int.reduceDiv, Int.reduceMod, Nat.reduceLT, Nat.reduceLeDiff, Nat.reduceMul, Nat.reduceSub, Int.reduceToNat, go_sem, Nat.le_refl, ↓ix_enc, encI_len, Try.results3]
  with_reducible refine CallOk.of (awake_ok) rfl ?_
  simp (implicitDefEqProofs := false) (disch := omega) only [go_sem, reduceCtorEq, Nat.reduceEqDiff, Nat.reduceBEq, ↓reduceIte, Nat.reduceGT, Nat.reduceAdd, Int.reduceEq, Int.reduceLT, Int.reduceLE, Int.reduceNeg, Int.reduceAdd, Int.reduceSub, Int.reduceMul, Int.reduceDiv, Int.reduceMod, Nat.reduceLT, Nat.reduceLeDiff, Nat.reduceMul, Nat.reduceSub, Int.reduceToNat, go_sem, Nat.le_refl, ↓ix_enc, encI_len, Try.results3]
  by_cases h1 : l.length ≤ 100
  · have g1 := good_ok l hl
    have g2 := rgood_ok l hl
    have hq : 0 ≤ m.tmod 3 ∧ m.tmod 3 ≤ 2 := by
      rw [Int.tmod_eq_emod_of_nonneg hm.1]
      omega
    simp (implicitDefEqProofs := false) (disch := omega) only [go_sem, reduceCtorEq, Nat.reduceEqDiff, Nat.reduceBEq, ↓reduceIte, Nat.reduceGT, Nat.reduceAdd, Int.reduceEq, Int.reduceLT, Int.reduceLE, Int.reduceNeg, Int.reduceAdd, Int.reduceSub, Int.reduceMul, Int.reduceDiv, Int.reduceMod, Nat.reduceLT, Nat.reduceLeDiff, Nat.reduceMul, Nat.reduceSub, Int.reduceToNat, go_sem, Nat.le_refl, ↓ix_enc, encI_len, Try.results3]
    generalize hqe : m.tmod 3 = q at *
    simp only [made_zeros]
    generalize hN : (4096 + q - 1).toNat = N
    have hb : decide (N ≤ 4096) = decide (q < 2) := by
      congr 1
      apply propext
      omega
    generalize goodB l = gl at g1 g2
    with_reducible refine CallOk.of (g1) rfl ?_
    simp (implicitDefEqProofs := false) (disch := omega) only [go_sem, reduceCtorEq, Nat.reduceEqDiff, Nat.reduceBEq, ↓reduceIte, Nat.reduceGT, Nat.reduceAdd, Int.reduceEq, Int.reduceLT, Int.reduceLE, Int.reduceNeg, Int.reduceAdd, Int.reduceSub, Int.reduceMul, Int.reduceDiv, Int.reduceMod, Nat.reduceLT, Nat.reduceLeDiff, Nat.reduceMul, Nat.reduceSub, Int.reduceToNat, go_sem, Nat.le_refl, ↓ix_enc, encI_len, Try.results3]
    with_reducible refine CallOk.of g2 rfl ?_
    simp (implicitDefEqProofs := false) (disch := omega) only [go_sem, reduceCtorEq, Nat.reduceEqDiff, Nat.reduceBEq, ↓reduceIte, Nat.reduceGT, Nat.reduceAdd, Int.reduceEq, Int.reduceLT, Int.reduceLE, Int.reduceNeg, Int.reduceAdd, Int.reduceSub, Int.reduceMul, Int.reduceDiv, Int.reduceMod, Nat.reduceLT, Nat.reduceLeDiff, Nat.reduceMul, Nat.reduceSub, Int.reduceToNat, go_sem, Nat.le_refl, ↓ix_enc, encI_len, beq_self_eq_true, Try.results3]
    refine CallOk.ofI (made_good (id := 13) (N := N) (by omega)) rfl rfl rfl rfl ?_
    rintro r st1 ⟨rfl, rfl⟩
    rw [hb]
    simp (implicitDefEqProofs := false) (disch := omega) only [go_sem, reduceCtorEq, Nat.reduceEqDiff, Nat.reduceBEq, ↓reduceIte, Nat.reduceGT, Nat.reduceAdd, Int.reduceEq, Int.reduceLT, Int.reduceLE, Int.reduceNeg, Int.reduceAdd, Int.reduceSub, Int.reduceMul, Int.reduceDiv, Int.reduceMod, Nat.reduceLT, Nat.reduceLeDiff, Nat.reduceMul, Nat.reduceSub, Int.reduceToNat, go_sem, Nat.le_refl, ↓ix_enc, encI_len, hqe, beq_self_eq_true, Try.results3]
  · simp (implicitDefEqProofs := false) (disch := omega) only [go_sem, reduceCtorEq, Nat.reduceEqDiff, Nat.reduceBEq, ↓reduceIte, Nat.reduceGT, Nat.reduceAdd, Int.reduceEq, Int.reduceLT, Int.reduceLE, Int.reduceNeg, Int.reduceAdd, Int.reduceSub, Int.reduceMul, Int.reduceDiv, Int.reduceMod, Nat.reduceLT, Nat.reduceLeDiff, Nat.reduceMul, Nat.reduceSub, Int.reduceToNat, go_sem, Nat.le_refl, ↓ix_enc, encI_len, Try.results3]
    with_reducible refine CallOk.of (awake_ok) rfl ?_
    simp (implicitDefEqProofs := false) (disch := omega) only [go_sem, reduceCtorEq, Nat.reduceEqDiff, Nat.reduceBEq, ↓reduceIte, Nat.reduceGT, Nat.reduceAdd, Int.reduceEq, Int.reduceLT, Int.reduceLE, Int.reduceNeg, Int.reduceAdd, Int.reduceSub, Int.reduceMul, Int.reduceDiv, Int.reduceMod, Nat.reduceLT, Nat.reduceLeDiff, Nat.reduceMul, Nat.reduceSub, Int.reduceToNat, go_sem, Nat.le_refl, ↓ix_enc, encI_len, Try.results3]
end Go.Proofs.Ytmenmfibpbpblaa
