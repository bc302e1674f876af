/-
  Chapter 12: slices.Clone of numbers.
-/
import Derived.Test.YtmenmfibpbpblaaD3
import Derived.Lib.AppendZeros
import Derived.WalkKit
import Derived.Lib.Walk
import Derived.Lib.SliceRun
import Derived.Shelf.Spec.SlicesInsertGrow
open Go Go.Proofs Go.RowKit Go.Lib Go.Pw
namespace Go.Proofs.Ytmenmfibpbpblaa
set_option maxRecDepth 4000
set_option linter.unusedVariables false
set_option linter.unusedSimpArgs false
theorem upd_same {α : Type} : ∀ {l : List (Nat × α)} {k : Nat} {t : α}, lkp l k = some t → upd l k t = l
  | [], k, t, h => by cases h
  | (j, u) :: r, k, t, h => by
    rw [lkp_cons] at h
    rw [upd]
    split at h
    · rename_i e
      rw [if_pos e, Option.some.inj h, e]
    · rename_i e
      rw [if_neg e, upd_same h]
/-- Any row behind a row of ours. -/
theorem app_any {e : TypeId} {sz b tk k : Nat} {st : PS} {xs ys : List (List PV)} {F : PS → Prop} {d : Option Tmp} {t : Tok} (hk : lkp st.toks k = some t) (ht : t = ⟨e, sz, xs.length⟩) (h1 : (xs.length + ys.length) * b ≤ 140737488355328) (h2 : xs.length + ys.length ≤ 9223372036854775807)
    (h : evS (({ st with toks := upd st.toks k ⟨e, sz, xs.length + ys.length⟩ } : PS).put d (.row k (xs ++ ys))) F) : appT e sz b st tk (fun δ => evS (δ.apply d st) F) (.row k xs) ys := by
  subst ht
  cases ys with
  | nil =>
    refine ⟨rfl, ?_⟩
    simp only [List.length_nil, Nat.add_zero, List.append_nil, upd_same hk] at h
    exact h
  | cons y r =>
    show bindO (lkp st.toks k) _
    rw [hk, b_some]
    exact ⟨rfl, rfl, rfl, h1, h2, h⟩
/-- The rewriting stops where a whole row is appended. -/
def appZ (e : TypeId) (sz by_ : Nat) (st : PS) (tk0 : Nat) (K : Delta → Prop) (d : PV) (ys : List (List PV)) : Prop := appT e sz by_ st tk0 K d ys
theorem app_stopI {e : TypeId} {sz b tk k : Nat} {st : PS} {xs : List (List PV)} {K : Delta → Prop} {l : List Int} : appT e sz b st tk K (.row k xs) (encI l) = appZ e sz b st tk K (.row k xs) (encI l) := propext Iff.rfl
attribute [go_sem ↓ 2000] app_stopI
@[congr] theorem appZ_congr {e : TypeId} {sz b tk : Nat} {st st' : PS} {K : Delta → Prop} {d : PV} {ys : List (List PV)} (h : hold st = st') : appZ e sz b st tk K d ys = appZ e sz b st' tk K d ys := by rw [← h]; rfl
theorem appZ_any {e : TypeId} {sz b tk k : Nat} {st : PS} {xs ys : List (List PV)} {F : PS → Prop} {d : Option Tmp} {t : Tok} (hk : lkp st.toks k = some t) (ht : t = ⟨e, sz, xs.length⟩) (h1 : (xs.length + ys.length) * b ≤ 140737488355328) (h2 : xs.length + ys.length ≤ 9223372036854775807)
    (h : evS (({ st with toks := upd st.toks k ⟨e, sz, xs.length + ys.length⟩ } : PS).put d (.row k (xs ++ ys))) F) : appZ e sz b st tk (fun δ => evS (δ.apply d st) F) (.row k xs) ys := app_any hk ht h1 h2 h
theorem fz_encI : ∀ (l : List Int), fzLL (encI l) = some (encI l)
  | [] => rfl
  | x :: r => by
    have ih := fz_encI r
    unfold encI at ih ⊢
    rw [List.map_cons, fzLL, ih]
    rfl
theorem encI_all (l : List Int) : (∀ x ∈ encI l, x.length = 1) = True := eq_true (fun x hx => by
  obtain ⟨n, _, rfl⟩ := List.mem_map.1 hx
  rfl)
attribute [go_sem] fz_encI encI_all
theorem run_append_empty {P : Program} {t e ty : TypeId} {i : TypeInfo} (ht : P.underlying t = some (.slice e)) (hi : P.info? e = some i) (b : Nat) (a : Addr) (cd c : Nat) (w : World) :
    (Builtin.append_ #[t, t] ty #[.slice (some ⟨b, 0, none⟩) 0 cd, .slice (some a) 0 c]).run P w = .ok (.slice (some ⟨b, 0, none⟩) 0 cd) w := by
  have hs : Src P i.size t (.slice (some a) 0 c) 0 [] w := Src.ofSlice w ht a 0 c [] (by simp) (fun j u hj => by simp at hj) (fun v hv => by cases hv)
  have := run_append_room_src (P := P) (w := w) t t ty e i ht hi b 0 0 cd (.slice (some a) 0 c) 0 [] hs (Nat.zero_le _) (fun j hj => by simp at hj) (fun j hj => by simp at hj)
  simpa [World.setCells] using this
theorem ok_of_empty {P : Program} {f : FuncId} (hent : enters P f = true) (h : ∀ (A : Option Addr) (c : Nat) (w : World), Calls P f #[.slice A 0 c] w fun e w' => ∃ A c', e = .returned (.slice A 0 c') ∧ Below w.heap.size w w') : Ok P f [.sl []] (.sl []) := by
  refine ⟨hent, fun S w vals hkn hS hn hr => ?_⟩
  obtain ⟨v, rfl⟩ : ∃ v, vals = #[v] := by
    cases vals with
    | mk l => match l, hn with
      | [v], _ => exact ⟨v, rfl⟩
  have r := hr 0 v _ rfl rfl
  cases r with
  | frz r =>
  cases r with
  | sl f hn' hc hsz hA hr' =>
  rename_i A n c sz
  have h0 : n = 0 := by simpa using hn'.symm
  subst h0
  refine (h A c w).mono ?_
  rintro e w' ⟨A', c', rfl, hb⟩
  refine ⟨_, S, rfl, SLe.refl _, fun b o u hu => ?_, fun b o u hu => .inl hu, .frz (.sl (sz := 1) (fun _ _ => .nilIface) rfl (Nat.zero_le _) (by simp) (by simp) (by simp)), hb⟩
  have h1 := hS b o u hu
  have hlt : b < w.heap.size := by
    rcases Nat.lt_or_ge b w.heap.size with h' | h'
    · exact h'
    · simp [World.cell?, Array.getElem?_eq_none h'] at h1
  rw [World.cell?_of_block (hb.block b hlt)]
  exact h1
set_option maxHeartbeats 2000000 in
set_option maxRecDepth 100000 in
theorem cloneI_none (c : Nat) (w : World) : Calls Try.prog 25 #[.slice none 0 c] w fun e w' => ∃ A c', e = .returned (.slice A 0 c') ∧ Below w.heap.size w w' := by
  go_enter Try.func25, Try.ntmps25
  go_wp2
  rw [Lib.run_eql_slice_nil _ _ _ _ _ _ _ _ Try.underlying22]
  simp only [Result.andThen]
  rw [Oper.upon_value]
  go_wp2
  go_ret
  exact ⟨none, 0, rfl, Below.refl _ _⟩
set_option maxHeartbeats 2000000 in
set_option maxRecDepth 100000 in
theorem cloneI_some (a : Addr) (c : Nat) (w : World) : Calls Try.prog 25 #[.slice (some a) 0 c] w fun e w' => ∃ A c', e = .returned (.slice A 0 c') ∧ Below w.heap.size w w' := by
  obtain ⟨i0, hi0, _⟩ : ∃ i0, Try.prog.info? 3 = some i0 ∧ True := ⟨_, rfl, trivial⟩
  have hrun := fun (ty : TypeId) (b cd : Nat) (W : World) => run_append_empty (ty := ty) Try.underlying22 hi0 b a cd c W
  go_enter Try.func25, Try.ntmps25
  go_wp2
  rw [Lib.run_eql_slice_nil _ _ _ _ _ _ _ _ Try.underlying22]
  simp only [Result.andThen]
  rw [Oper.upon_value]
  go_wp2_with (at_builtin; refine Lib.wpList_append_run _ rfl _ _ _ _ rfl _ _ rfl rfl _ _ (hrun _ _ _ _) ?_)
  go_ret
  exact ⟨some _, 0, rfl, (Below.refl _ _).alloc (Nat.le_refl _) _⟩
set_option maxHeartbeats 2000000 in
theorem cloneI_ok (l : List Int) (hl : l.length ≤ 1000000) : Ok Try.prog 25 [.sl (encI l)] (.sl (encI l)) := by
  cases l with
  | nil =>
    rw [encI_nil]
    refine ok_of_empty (by kernel_rfl) fun A c w => ?_
    cases A with
    | none => exact cloneI_none c w
    | some a => exact cloneI_some a c w
  | cons x r =>
    refine Ok.of_pwp (by kernel_rfl) Try.func25 rfl (by kernel_rfl) (by kernel_rfl) ?_
    simp (implicitDefEqProofs := false) (disch := omega) only [go_sem, reduceCtorEq, Nat.reduceEqDiff, Nat.reduceBEq, ↓reduceIte, Nat.reduceGT, Nat.reduceAdd, Int.reduceEq, Int.reduceLT, Int.reduceLE, Int.reduceNeg, Int.reduceAdd, Int.reduceSub, Int.reduceMul, Int.reduceDiv, Int.reduceMod, Nat.reduceLT, Nat.reduceLeDiff, Nat.reduceMul, Nat.reduceSub, Int.reduceToNat, go_sem, Nat.le_refl, encI_len, Try.results25]
    refine ⟨⟨_, Try.underlying22⟩, by simp [encI], ?_⟩
    refine appZ_any rfl rfl (by rw [encI_len, List.length_nil]; omega) (by rw [encI_len, List.length_nil]; omega) ?_
    simp (implicitDefEqProofs := false) (disch := omega) only [go_sem, reduceCtorEq, Nat.reduceEqDiff, Nat.reduceBEq, ↓reduceIte, Nat.reduceGT, Nat.reduceAdd, Int.reduceEq, Int.reduceLT, Int.reduceLE, Int.reduceNeg, Int.reduceAdd, Int.reduceSub, Int.reduceMul, Int.reduceDiv, Int.reduceMod, Nat.reduceLT, Nat.reduceLeDiff, Nat.reduceMul, Nat.reduceSub, Int.reduceToNat, go_sem, Nat.le_refl, encI_len, Try.results25]
end Go.Proofs.Ytmenmfibpbpblaa
