import Derived.Test.YtmfaejdnaippkaaDoorGQ9
/-
  The document's value ags the program's, and back; an object with one more key; whether twoP values are the same.
-/
open Go Go.Proofs Go.Pw Go.RowKit
namespace Go.Proofs.YtmfaejdnaippkaaDoor
set_option maxRecDepth 4000
set_option linter.unusedVariables false
set_option linter.unusedSimpArgs false
theorem upd_same {α : Type} : ∀ {l : List (Nat × α)} {k : Nat} {t : α}, lkp l k = some t → upd l k t = l
  | [], k, t, h => by cases h
  | (j, u) :: r, k, t, h => by
    rw [lkp_cons] at h
    rw [upd]
    split at h
    · rename_i e
      rw [if_pos e, Option.some.inj h, e]
    · rename_i e
      rw [if_neg e, upd_same h]
/-- Any row behind a row of ours. -/
theorem app_any {e : TypeId} {sz b tk k : Nat} {st : PS} {xs ys : List (List PV)} {F : PS → Prop} {d : Option Tmp} {t : Tok} (hk : lkp st.toks k = some t) (ht : t = ⟨e, sz, xs.length⟩) (h1 : (xs.length + ys.length) * b ≤ 140737488355328) (h2 : xs.length + ys.length ≤ 9223372036854775807)
    (h : evS (({ st with toks := upd st.toks k ⟨e, sz, xs.length + ys.length⟩ } : PS).put d (.row k (xs ++ ys))) F) : appT e sz b st tk (fun δ => evS (δ.apply d st) F) (.row k xs) ys := by
  subst ht
  cases ys with
  | nil =>
    refine ⟨rfl, ?_⟩
    simp only [List.length_nil, Nat.add_zero, List.append_nil, upd_same hk] at h
    exact h
  | cons y r =>
    show bindO (lkp st.toks k) _
    rw [hk, b_some]
    exact ⟨rfl, rfl, rfl, h1, h2, h⟩
/-- The rewriting stops where a whole row is appended. -/
def appZ (e : TypeId) (sz by_ : Nat) (st : PS) (tk0 : Nat) (K : Delta → Prop) (d : PV) (ys : List (List PV)) : Prop := appT e sz by_ st tk0 K d ys
theorem app_stopT {e : TypeId} {sz b tk k : Nat} {st : PS} {xs : List (List PV)} {K : Delta → Prop} {l : List ByteArray} : appT e sz b st tk K (.row k xs) (encT l) = appZ e sz b st tk K (.row k xs) (encT l) := propext Iff.rfl
theorem app_stopV {e : TypeId} {sz b tk k : Nat} {st : PS} {xs : List (List PV)} {K : Delta → Prop} {l : List V} : appT e sz b st tk K (.row k xs) (encV l) = appZ e sz b st tk K (.row k xs) (encV l) := propext Iff.rfl
attribute [go_sem ↓ 2000] app_stopT app_stopV
@[congr] theorem appZ_congr {e : TypeId} {sz b tk : Nat} {st st' : PS} {K : Delta → Prop} {d : PV} {ys : List (List PV)} (h : hold st = st') : appZ e sz b st tk K d ys = appZ e sz b st' tk K d ys := by rw [← h]; rfl
theorem appZ_any {e : TypeId} {sz b tk k : Nat} {st : PS} {xs ys : List (List PV)} {F : PS → Prop} {d : Option Tmp} {t : Tok} (hk : lkp st.toks k = some t) (ht : t = ⟨e, sz, xs.length⟩) (h1 : (xs.length + ys.length) * b ≤ 140737488355328) (h2 : xs.length + ys.length ≤ 9223372036854775807)
    (h : evS (({ st with toks := upd st.toks k ⟨e, sz, xs.length + ys.length⟩ } : PS).put d (.row k (xs ++ ys))) F) : appZ e sz b st tk (fun δ => evS (δ.apply d st) F) (.row k xs) ys := app_any hk ht h1 h2 h
def rowV (k : Nat) : List V → PV
  | [] => vNil
  | x :: r => .row k (encV (x :: r))
theorem fz_rowV (k : Nat) (l : List V) : fz (rowV k l) = some (.sl (encV l)) := by
  cases l with
  | nil => rw [encV_nil]; rfl
  | cons x r => rfl
attribute [go_sem ↓ 2000] fz_rowV
end Go.Proofs.YtmfaejdnaippkaaDoor
