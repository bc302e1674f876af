import Derived.Test.YtmfaejdnaippkaaDoorGS9
/-
  The document's value ags the program's, and back; an object with one more key; whether twoP values are the same.
-/
open Go Go.Proofs Go.Pw Go.RowKit
namespace Go.Proofs.YtmfaejdnaippkaaDoor
set_option maxRecDepth 4000
set_option linter.unusedVariables false
set_option linter.unusedSimpArgs false
theorem upd_same {α : Type} : ∀ {l : List (Nat × α)} {k : Nat} {t : α}, lkp l k = some t → upd l k t = l
  | [], k, t, h => by cases h
  | (j, u) :: r, k, t, h => by
    rw [lkp_cons] at h
    rw [upd]
    split at h
    · rename_i e
      rw [if_pos e, Option.some.inj h, e]
    · rename_i e
      rw [if_neg e, upd_same h]
/-- Any row behind a row of ours. -/
theorem app_any {e : TypeId} {sz b tk k : Nat} {st : PS} {xs ys : List (List PV)} {F : PS → Prop} {d : Option Tmp} {t : Tok} (hk : lkp st.toks k = some t) (ht : t = ⟨e, sz, xs.length⟩) (h1 : (xs.length + ys.length) * b ≤ 140737488355328) (h2 : xs.length + ys.length ≤ 9223372036854775807)
    (h : evS (({ st with toks := upd st.toks k ⟨e, sz, xs.length + ys.length⟩ } : PS).put d (.row k (xs ++ ys))) F) : appT e sz b st tk (fun δ => evS (δ.apply d st) F) (.row k xs) ys := by
  subst ht
  cases ys with
  | nil =>
    refine ⟨rfl, ?_⟩
    simp only [List.length_nil, Nat.add_zero, List.append_nil, upd_same hk] at h
    exact h
  | cons y r =>
    show bindO (lkp st.toks k) _
    rw [hk, b_some]
    exact ⟨rfl, rfl, rfl, h1, h2, h⟩
/-- The rewriting stops where a whole row is appended. -/
def appZ (e : TypeId) (sz by_ : Nat) (st : PS) (tk0 : Nat) (K : Delta → Prop) (d : PV) (ys : List (List PV)) : Prop := appT e sz by_ st tk0 K d ys
theorem app_stopT {e : TypeId} {sz b tk k : Nat} {st : PS} {xs : List (List PV)} {K : Delta → Prop} {l : List ByteArray} : appT e sz b st tk K (.row k xs) (encT l) = appZ e sz b st tk K (.row k xs) (encT l) := propext Iff.rfl
theorem app_stopV {e : TypeId} {sz b tk k : Nat} {st : PS} {xs : List (List PV)} {K : Delta → Prop} {l : List V} : appT e sz b st tk K (.row k xs) (encV l) = appZ e sz b st tk K (.row k xs) (encV l) := propext Iff.rfl
attribute [go_sem ↓ 2000] app_stopT app_stopV
@[congr] theorem appZ_congr {e : TypeId} {sz b tk : Nat} {st st' : PS} {K : Delta → Prop} {d : PV} {ys : List (List PV)} (h : hold st = st') : appZ e sz b st tk K d ys = appZ e sz b st' tk K d ys := by rw [← h]; rfl
theorem appZ_any {e : TypeId} {sz b tk k : Nat} {st : PS} {xs ys : List (List PV)} {F : PS → Prop} {d : Option Tmp} {t : Tok} (hk : lkp st.toks k = some t) (ht : t = ⟨e, sz, xs.length⟩) (h1 : (xs.length + ys.length) * b ≤ 140737488355328) (h2 : xs.length + ys.length ≤ 9223372036854775807)
    (h : evS (({ st with toks := upd st.toks k ⟨e, sz, xs.length + ys.length⟩ } : PS).put d (.row k (xs ++ ys))) F) : appZ e sz b st tk (fun δ => evS (δ.apply d st) F) (.row k xs) ys := app_any hk ht h1 h2 h
def rowV (k : Nat) : List V → PV
  | [] => vNil
  | x :: r => .row k (encV (x :: r))
def tokV (k : Nat) (e : TypeId) : List V → List (Nat × Tok)
  | [] => []
  | x :: r => [(k, ⟨e, 6, (x :: r).length⟩)]
theorem fz_rowV (k : Nat) (l : List V) : fz (rowV k l) = some (.sl (encV l)) := by
  cases l with
  | nil => rw [encV_nil]; rfl
  | cons x r => rfl
attribute [go_sem ↓ 2000] fz_rowV
theorem encV_snoc' (l : List V) (v : V) : encV (l ++ [v]) = encV l ++ [cellsV v] := (encV_snoc l v).symm
set_option maxHeartbeats 4000000 in
theorem real_ok : ∀ v, szV v ≤ 1000000 → Ok Tryd.prog 13 [.agg (cellsV v)] (.agg (cellsV v)) := by
  refine V.ind fun v ih hv => ?_
  obtain ⟨hl, hl2, hx, hs⟩ := V.small hv
  have hit : ∀ i, i < v.items.length → Ok Tryd.prog 13 [.agg (cellsV (v.items.getD i default))] (.agg (cellsV (v.items.getD i default))) := fun i hi => ih _ (getD_mem hi) (hx _ (getD_mem hi))
  suffices key : ∀ rr, rr = PV.agg (cellsV v) → Ok Tryd.prog 13 [.agg (cellsV v)] rr from key _ rfl
  intro rr hr
  refine Ok.of_pwp (by kernel_rfl) Tryd.func13 rfl (by kernel_rfl) (by kernel_rfl) ?_
  simp (implicitDefEqProofs := false) (disch := omega) only [go_sem, simprocAttr, go_sem, Nat.le_refl, cellsV, Tryd.results13]
  refine appZ_any rfl rfl (by rw [encT_len, List.length_nil]; omega) (by rw [encT_len, List.length_nil]; omega) ?_
  simp (implicitDefEqProofs := false) (disch := omega) only [go_sem, simprocAttr, go_sem, Nat.le_refl, cellsV, Tryd.results13]
  refine p_loop (ι := { p : Nat × Nat × List V // p.1 ≤ v.items.length ∧ p.2.2 = v.items.take p.1 })
    (fun p => ⟨[(22, vI p.1.1), (21, vI v.items.length), (20, .sl (encV v.items)), (3, .ptr 15 0), (2, .ptr 1 0)], [(15, .box 29 [vI v.kind, vB v.b, vI v.n, vS v.s, rowV p.1.2.1 p.1.2.2, .sl (encT v.keys)]), (1, .box 29 [vI 0, vB false, vI 0, vS ByteArray.empty, vNil, vNil])], tokV p.1.2.1 29 p.1.2.2, 16, p.1.2.1 + 1⟩) (fun p => v.items.length - p.1.1) ⟨(0, 10, []), Nat.zero_le _, rfl⟩ ?_ ?_
  · simp only [rowV, tokV]
    refine ⟨?_, ?_, ?_, ?_, ?_, ?_, ?_⟩ <;> simp only [go_sem, simprocAttr, decide_eq_true_eq, Int.natCast_zero] <;> try first | omega | ((repeat' (first | exact And.intro rfl (by omega) | (refine And.intro ?_ ?_))) <;> first | rfl | omega | (congr 3; omega) | (congr 2; omega))
  · rintro ⟨⟨i, k, xs⟩, h1, h2⟩
    simp only at h1 h2 ⊢
    simp (implicitDefEqProofs := false) (disch := omega) only [go_sem, simprocAttr, go_sem, Nat.le_refl, cellsV, Tryd.results13]
    with_reducible refine ifK_split (fun hlt => ?_) (fun hge => ?_)
    · have hi : i < v.items.length := by omega
      have e1 := take_snocG (a := v.items) (d := default) hi
      rw [← h2] at e1
      have hxl : xs.length ≤ 1000000 := by rw [h2, List.length_take]; omega
      simp (implicitDefEqProofs := false) (disch := omega) only [go_sem, simprocAttr, go_sem, Nat.le_refl, cellsV, Tryd.results13]
      with_reducible refine CallOk.of (hit i hi) rfl ?_
      cases xs with
      | nil =>
        simp only [rowV, tokV]
        simp (implicitDefEqProofs := false) (disch := omega) only [go_sem, simprocAttr, go_sem, Nat.le_refl, cellsV, Tryd.results13]
        refine ⟨⟨(i + 1, k + 1 + 1 + 4 + 5, [v.items.getD i default]), hi, by simp only; rw [e1]; rfl⟩, by simp only; omega, ?_⟩
        simp only [rowV, tokV]
        refine ⟨?_, ?_, ?_, ?_, ?_, ?_, ?_⟩ <;> simp only [go_sem, simprocAttr, decide_eq_true_eq, Int.natCast_add, Int.natCast_one, List.length_singleton, List.length_nil, Nat.zero_add, ite_self, encV_cons, encV_nil, cellsV] <;> try first | omega | ((repeat' (first | exact And.intro rfl (by omega) | (refine And.intro ?_ ?_))) <;> first | rfl | omega | (congr 3; omega) | (congr 2; omega))
      | cons x q =>
        simp only [List.length_cons] at hxl
        have hq : q.length ≤ 1000000 := by omega
        simp only [rowV, tokV]
        simp (implicitDefEqProofs := false) (disch := omega) only [go_sem, simprocAttr, go_sem, Nat.le_refl, cellsV, Tryd.results13]
        refine ⟨⟨(i + 1, k, x :: (q ++ [v.items.getD i default])), hi, by simp only; rw [e1]; rfl⟩, by simp only; omega, ?_⟩
        simp only [rowV, tokV]
        refine ⟨?_, ?_, ?_, ?_, ?_, ?_, ?_⟩ <;> simp only [go_sem, simprocAttr, decide_eq_true_eq, Int.natCast_add, Int.natCast_one, List.length_cons, List.length_append, List.length_singleton, encV_cons, encV_snoc', encV_nil, List.cons_append, cellsV] <;> try first | omega | ((repeat' (first | exact And.intro rfl (by omega) | (refine And.intro ?_ ?_))) <;> first | rfl | omega | (congr 3; omega) | (congr 2; omega))
    · rw [List.take_of_length_le (by omega)] at h2
      simp (implicitDefEqProofs := false) (disch := omega) only [go_sem, simprocAttr, go_sem, Nat.le_refl, cellsV, Tryd.results13]
      rw [h2, hr]
end Go.Proofs.YtmfaejdnaippkaaDoor
