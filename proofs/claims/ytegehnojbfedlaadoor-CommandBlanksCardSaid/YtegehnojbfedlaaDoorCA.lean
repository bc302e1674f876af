/-
  Chapter 25: strings.Join as a contract; a command's line: the program's and the document's.
-/
import Derived.Test.YtegehnojbfedlaaDoorC9
open Go Go.Proofs Go.Pw Go.RowKit
namespace Go.Proofs.YtegehnojbfedlaaDoor
set_option maxRecDepth 4000
set_option linter.unusedVariables false
set_option linter.unusedSimpArgs false
theorem joinB_ok (l : List (List UInt8)) (sep : List UInt8) (h0 : l ≠ []) (hN : l.length ≤ 1000000) (hlen : (Lib.join l sep).length ≤ 1000000) :
    Ok Tryd.prog 39 [.sl (encB l), vS (bA sep)] (vS (bA (Lib.join l sep))) := by
  refine ⟨by kernel_rfl, fun S w vals hk hS hsv hrep => ?_⟩
  obtain ⟨v0, v1, rfl⟩ : ∃ v0 v1, vals = #[v0, v1] := by
    cases vals with
    | mk l => match l, hsv with
      | [a, b], _ => exact ⟨a, b, rfl⟩
  have r0 := hrep 0 v0 _ rfl rfl
  have r1 := hrep 1 v1 _ rfl rfl
  obtain ⟨rfl, _⟩ := rep_val r1
  have hpos : 0 < l.length := List.length_pos_iff.2 h0
  cases r0 with
  | frz r0 =>
  cases r0 with
  | sl f hn hc hsz hA hr =>
  rename_i A n c sz
  rw [encB_len] at hn
  subst hn
  have e1 : sz = 1 := by
    obtain ⟨x, hxm⟩ := List.exists_mem_of_length_pos (l := encB l) (by rw [encB_len]; exact hpos)
    rw [← hsz x hxm]
    obtain ⟨y, _, rfl⟩ := List.mem_map.1 hxm
    rfl
  subst e1
  obtain ⟨b, o, rfl, hcell⟩ := hA hpos
  have hget : ∀ j, j < l.length → w.cell? ⟨b, o + j, none⟩ = some (.string (bA (l.getD j []))) := fun j hj => by
    have h1 := hS _ _ _ (hcell j 0 hj (by decide))
    rw [Nat.mul_one, Nat.add_zero] at h1
    have h2 := hr j 0 [vS (bA (l.getD j []))] (vS (bA (l.getD j []))) (by
      unfold encB
      rw [List.getElem?_map, List.getD_eq_getElem?_getD, List.getElem?_eq_getElem hj]; rfl) rfl
    generalize f j 0 = u at h1 h2
    cases h2
    exact h1
  have hb : b < w.heap.size := by
    have := hget 0 hpos
    apply Decidable.byContradiction
    intro hge
    simp [World.cell?, Array.getElem?_eq_none (Nat.not_lt.1 hge)] at this
  have hmap : (l.map bA).map (·.data.toList) = l := by rw [List.map_map]; exact List.map_id'' (fun x => rfl) l
  have hj := Tryd.strings_Join b o c (l.map bA) (bA sep) w (fun j x hx => by
    rw [List.getElem?_map] at hx
    obtain ⟨y, hy, rfl⟩ := Option.map_eq_some_iff.1 hx
    have := hget j (List.getElem?_eq_some_iff.1 hy).1
    rw [List.getD_eq_getElem?_getD, hy] at this
    exact this) hb (by rw [List.length_map]; omega) (by rw [List.length_map]; exact hc) (by rw [hmap]; exact Nat.le_trans hlen (by decide))
  rw [List.length_map, hmap] at hj
  refine hj.mono ?_
  rintro e w' ⟨rfl, hbl⟩
  exact ⟨_, S, rfl, SLe.refl _, stable_below hS hbl, fun b o u hu => .inl hu, .frz (.val rfl), hbl⟩
end Go.Proofs.YtegehnojbfedlaaDoor
