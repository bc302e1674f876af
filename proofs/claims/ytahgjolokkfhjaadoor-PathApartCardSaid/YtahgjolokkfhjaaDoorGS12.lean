import Derived.Test.YtahgjolokkfhjaaDoorGS10
import Derived.Test.YtahgjolokkfhjaaDoorGS11
/-
  The law of items.
-/
open Go Go.Proofs Go.Pw Go.RowKit
namespace Go.Proofs.YtahgjolokkfhjaaDoor
set_option maxRecDepth 4000
set_option linter.unusedVariables false
set_option linter.unusedSimpArgs false
theorem posT_lt {l : List ByteArray} {t : ByteArray} {k : Nat} (h : k < posT l t) : ltT (l.getD k ByteArray.empty) t = true := by
  unfold posT at h
  induction l generalizing k with
  | nil => simp at h
  | cons x r ih =>
    rw [List.takeWhile_cons] at h
    split at h
    · rename_i hx
      cases k with
      | zero => exact hx
      | succ k => simp at h; simpa using ih (by omega)
    · simp at h
theorem find_T {l : List ByteArray} {t : ByteArray} (hf : foundT l t = true) : findF l t = (posT l t : Nat) := by
  unfold foundT at hf
  simp only [Bool.and_eq_true, decide_eq_true_eq] at hf
  obtain ⟨h1, h2⟩ := hf
  have hm := getD_mem (d := ByteArray.empty) h1
  rw [h2] at hm
  unfold findF
  rw [if_pos (List.any_eq_true.2 ⟨t, hm, decide_eq_true rfl⟩)]
  have : l.findIdx (fun s => decide (s = t)) = posT l t := by
    rw [List.findIdx_eq h1]
    have eg : l.getD (posT l t) ByteArray.empty = l[posT l t] := by rw [List.getD_eq_getElem?_getD, List.getElem?_eq_getElem h1]; rfl
    refine ⟨by rw [← eg]; exact decide_eq_true h2, fun j hj => ?_⟩
    have h3 := posT_lt hj
    have ej : l.getD j ByteArray.empty = l[j] := by rw [List.getD_eq_getElem?_getD, List.getElem?_eq_getElem (by omega)]; rfl
    rw [ej] at h3
    rw [decide_eq_false_iff_not]
    intro e
    rw [e, ltT_irr] at h3
    cases h3
  rw [this]
theorem find_F {l : List ByteArray} {t : ByteArray} (hs : SortT l) (hf : foundT l t = false) : findF l t = -1 := by
  unfold findF
  rw [if_neg]
  intro ha
  obtain ⟨s, hm, he⟩ := List.any_eq_true.1 ha
  obtain rfl := of_decide_eq_true he
  obtain ⟨i, hi⟩ := List.mem_iff_getElem?.1 hm
  have hil := (List.getElem?_eq_some_iff.1 hi).1
  have hg : l.getD i ByteArray.empty = s := by rw [List.getD_eq_getElem?_getD, hi]; rfl
  have hp : posT l s = i := posT_of (by omega) (fun k hk => by have := hs.get hk hil; rw [hg] at this; exact this) (fun _ => by rw [hg]; exact ltT_irr s)
  unfold foundT at hf
  rw [hp, decide_eq_true hil, hg, decide_eq_true rfl] at hf
  cases hf
end Go.Proofs.YtahgjolokkfhjaaDoor
