/-
  slices.Clone: of nothing, in memory; of something, by its code.
-/
import Derived.Test.YtefhongghmimgaaV6
import Derived.Lib.AppendZeros
import Derived.WalkKit
import Derived.Lib.Walk
import Derived.Lib.SliceRun
open Go Go.Proofs Go.RowKit Go.Lib Go.Pw
namespace Go.Proofs.Ytefhongghmimgaa
set_option maxRecDepth 4000
set_option linter.unusedVariables false
set_option linter.unusedSimpArgs false
theorem run_append_empty {P : Program} {t e ty : TypeId} {i : TypeInfo} (ht : P.underlying t = some (.slice e)) (hi : P.info? e = some i) (b : Nat) (a : Addr) (cd c : Nat) (w : World) :
    (Builtin.append_ #[t, t] ty #[.slice (some ⟨b, 0, none⟩) 0 cd, .slice (some a) 0 c]).run P w = .ok (.slice (some ⟨b, 0, none⟩) 0 cd) w := by
  have hs : Src P i.size t (.slice (some a) 0 c) 0 [] w := Src.ofSlice w ht a 0 c [] (by simp) (fun j u hj => by simp at hj) (fun v hv => by cases hv)
  have := run_append_room_src (P := P) (w := w) t t ty e i ht hi b 0 0 cd (.slice (some a) 0 c) 0 [] hs (Nat.zero_le _) (fun j hj => by simp at hj) (fun j hj => by simp at hj)
  simpa [World.setCells] using this
theorem ok_of_empty {P : Program} {f : FuncId} (hent : enters P f = true) (h : ∀ (A : Option Addr) (c : Nat) (w : World), Calls P f #[.slice A 0 c] w fun e w' => ∃ A c', e = .returned (.slice A 0 c') ∧ Below w.heap.size w w') : Ok P f [.sl []] (.sl []) := by
  refine ⟨hent, fun S w vals hS hn hr => ?_⟩
  obtain ⟨v, rfl⟩ : ∃ v, vals = #[v] := by
    cases vals with
    | mk l => match l, hn with
      | [v], _ => exact ⟨v, rfl⟩
  have r := hr 0 v _ rfl rfl
  cases r with
  | frz r =>
  cases r with
  | sl f hn' hc hsz hA hr' =>
  rename_i A n c sz
  have h0 : n = 0 := by simpa using hn'.symm
  subst h0
  refine (h A c w).mono ?_
  rintro e w' ⟨A', c', rfl, hb⟩
  refine ⟨_, S, rfl, SLe.refl _, fun b o u hu => ?_, fun b o u hu => .inl hu, .frz (.sl (sz := 1) (fun _ _ => .nilIface) rfl (Nat.zero_le _) (by simp) (by simp) (by simp)), hb⟩
  have h1 := hS b o u hu
  have hlt : b < w.heap.size := by
    rcases Nat.lt_or_ge b w.heap.size with h' | h'
    · exact h'
    · simp [World.cell?, Array.getElem?_eq_none h'] at h1
  rw [World.cell?_of_block (hb.block b hlt)]
  exact h1
set_option maxHeartbeats 2000000 in
set_option maxRecDepth 100000 in
theorem cloneV_none (c : Nat) (w : World) : Calls Try.prog 48 #[.slice none 0 c] w fun e w' => ∃ A c', e = .returned (.slice A 0 c') ∧ Below w.heap.size w w' := by
  go_enter Try.func48, Try.ntmps48
  go_wp2
  rw [Lib.run_eql_slice_nil _ _ _ _ _ _ _ _ Try.underlying29]
  simp only [Result.andThen]
  rw [Oper.upon_value]
  go_wp2
  go_ret
  exact ⟨none, 0, rfl, Below.refl _ _⟩
set_option maxHeartbeats 2000000 in
set_option maxRecDepth 100000 in
theorem cloneV_some (a : Addr) (c : Nat) (w : World) : Calls Try.prog 48 #[.slice (some a) 0 c] w fun e w' => ∃ A c', e = .returned (.slice A 0 c') ∧ Below w.heap.size w w' := by
  obtain ⟨i0, hi0, _⟩ : ∃ i0, Try.prog.info? 31 = some i0 ∧ True := ⟨_, rfl, trivial⟩
  have hrun := fun (ty : TypeId) (b cd : Nat) (W : World) => run_append_empty (ty := ty) Try.underlying29 hi0 b a cd c W
  go_enter Try.func48, Try.ntmps48
  go_wp2
  rw [Lib.run_eql_slice_nil _ _ _ _ _ _ _ _ Try.underlying29]
  simp only [Result.andThen]
  rw [Oper.upon_value]
  go_wp2_with (at_builtin; refine Lib.wpList_append_run _ rfl _ _ _ _ rfl _ _ rfl rfl _ _ (hrun _ _ _ _) ?_)
  go_ret
  exact ⟨some _, 0, rfl, (Below.refl _ _).alloc (Nat.le_refl _) _⟩
set_option maxHeartbeats 2000000 in
theorem cloneV_ok (l : List V) (hl : l.length ≤ 1000000) : Ok Try.prog 48 [.sl (encV l)] (.sl (encV l)) := by
  cases l with
  | nil =>
    rw [encV_nil]
    refine ok_of_empty (by kernel_rfl) fun A c w => ?_
    cases A with
    | none => exact cloneV_none c w
    | some a => exact cloneV_some a c w
  | cons x r =>
    refine Ok.of_pwp (by kernel_rfl) Try.func48 rfl (by kernel_rfl) (by kernel_rfl) ?_
    simp (implicitDefEqProofs := false) (disch := omega) only [go_sem, reduceCtorEq, Nat.reduceEqDiff, Nat.reduceBEq, ↓reduceIte, Nat.reduceGT, Nat.reduceAdd, Int.reduceEq, Int.reduceLT, Int.reduceLE, Int.reduceNeg, Int.reduceAdd, Int.reduceSub, Int.reduceMul, Int.reduceDiv, Int.reduceMod, Nat.reduceLT, Nat.reduceLeDiff, Nat.reduceMul, Nat.reduceSub, Int.reduceToNat, go_sem, Nat.le_refl, cellsV, Try.results48]
    refine ⟨⟨_, Try.underlying29⟩, by simp [encV_cons], ?_⟩
    refine appZ_any rfl rfl (by rw [encV_len, List.length_nil]; omega) (by rw [encV_len, List.length_nil]; omega) ?_
    simp (implicitDefEqProofs := false) (disch := omega) only [go_sem, reduceCtorEq, Nat.reduceEqDiff, Nat.reduceBEq, ↓reduceIte, Nat.reduceGT, Nat.reduceAdd, Int.reduceEq, Int.reduceLT, Int.reduceLE, Int.reduceNeg, Int.reduceAdd, Int.reduceSub, Int.reduceMul, Int.reduceDiv, Int.reduceMod, Nat.reduceLT, Nat.reduceLeDiff, Nat.reduceMul, Nat.reduceSub, Int.reduceToNat, go_sem, Nat.le_refl, cellsV, Try.results48]
end Go.Proofs.Ytefhongghmimgaa
