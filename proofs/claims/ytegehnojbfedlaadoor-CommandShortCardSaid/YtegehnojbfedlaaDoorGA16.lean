/-
  Contracts and plain laws on the way to the statement; each says its own conditions.
-/
import Derived.Test.YtegehnojbfedlaaDoorGA14
import Derived.Lib.Join
section
/-
  Chapter 25: strings.Join as a contract; a command's line: the program's and the document's.
-/
open Go Go.Proofs Go.Pw Go.RowKit
namespace Go.Proofs.YtegehnojbfedlaaDoor
set_option maxRecDepth 4000
set_option linter.unusedVariables false
set_option linter.unusedSimpArgs false
theorem joinB_ok (l : List (List UInt8)) (sep : List UInt8) (h0 : l ≠ []) (hN : l.length ≤ 1000000) (hlen : (Lib.join l sep).length ≤ 1000000) :
    Ok Tryd.prog 39 [.sl (encB l), vS (bA sep)] (vS (bA (Lib.join l sep))) := by
  refine ⟨by kernel_rfl, fun S w vals hk hS hsv hrep => ?_⟩
  obtain ⟨v0, v1, rfl⟩ : ∃ v0 v1, vals = #[v0, v1] := by
    cases vals with
    | mk l => match l, hsv with
      | [a, b], _ => exact ⟨a, b, rfl⟩
  have r0 := hrep 0 v0 _ rfl rfl
  have r1 := hrep 1 v1 _ rfl rfl
  obtain ⟨rfl, _⟩ := rep_val r1
  have hpos : 0 < l.length := List.length_pos_iff.2 h0
  cases r0 with
  | frz r0 =>
  cases r0 with
  | sl f hn hc hsz hA hr =>
  rename_i A n c sz
  rw [encB_len] at hn
  subst hn
  have e1 : sz = 1 := by
    obtain ⟨x, hxm⟩ := List.exists_mem_of_length_pos (l := encB l) (by rw [encB_len]; exact hpos)
    rw [← hsz x hxm]
    obtain ⟨y, _, rfl⟩ := List.mem_map.1 hxm
    rfl
  subst e1
  obtain ⟨b, o, rfl, hcell⟩ := hA hpos
  have hget : ∀ j, j < l.length → w.cell? ⟨b, o + j, none⟩ = some (.string (bA (l.getD j []))) := fun j hj => by
    have h1 := hS _ _ _ (hcell j 0 hj (by decide))
    rw [Nat.mul_one, Nat.add_zero] at h1
    have h2 := hr j 0 [vS (bA (l.getD j []))] (vS (bA (l.getD j []))) (by
      unfold encB
      rw [List.getElem?_map, List.getD_eq_getElem?_getD, List.getElem?_eq_getElem hj]; rfl) rfl
    generalize f j 0 = u at h1 h2
    cases h2
    exact h1
  have hb : b < w.heap.size := by
    have := hget 0 hpos
    apply Decidable.byContradiction
    intro hge
    simp [World.cell?, Array.getElem?_eq_none (Nat.not_lt.1 hge)] at this
  have hmap : (l.map bA).map (·.data.toList) = l := by rw [List.map_map]; exact List.map_id'' (fun x => rfl) l
  have hj := Tryd.strings_Join b o c (l.map bA) (bA sep) w (fun j x hx => by
    rw [List.getElem?_map] at hx
    obtain ⟨y, hy, rfl⟩ := Option.map_eq_some_iff.1 hx
    have := hget j (List.getElem?_eq_some_iff.1 hy).1
    rw [List.getD_eq_getElem?_getD, hy] at this
    exact this) hb (by rw [List.length_map]; omega) (by rw [List.length_map]; exact hc) (by rw [hmap]; exact Nat.le_trans hlen (by decide))
  rw [List.length_map, hmap] at hj
  refine hj.mono ?_
  rintro e w' ⟨rfl, hbl⟩
  exact ⟨_, S, rfl, SLe.refl _, stable_below hS hbl, fun b o u hu => .inl hu, .frz (.val rfl), hbl⟩
end Go.Proofs.YtegehnojbfedlaaDoor

end
section
/-
  Chapter 25: a command's line: the program's and the document's.
-/
open Go Go.Proofs Go.Pw Go.RowKit
namespace Go.Proofs.YtegehnojbfedlaaDoor
set_option maxRecDepth 4000
set_option linter.unusedVariables false
set_option linter.unusedSimpArgs false
def tOf (n : Int) : List UInt8 := (sOf n).data.toList
theorem tOf_len (n : Int) (h : fits n) : (tOf n).length ≤ 21 := sOf_size n h
theorem textB_ok (n : Int) (h : fits n) : Ok Tryd.prog 38 [vI n] (vS (bA (tOf n))) := wtext_ok n h
theorem rtextB_ok (n : Int) (h : fits n) : Ok Tryd.prog 17 [repN n] (vS (bA (tOf n))) := rtext_ok n h
/-- The rest, as a piece. -/
def restC (c : Cm) : List (List UInt8) := match asks c.word with
  | some (_, _, true) => [c.rest]
  | _ => []
abbrev jT (l : List (List UInt8)) : List UInt8 := Lib.joinTail [32] l
/-- A command's line. -/
def lineC (c : Cm) : List UInt8 := c.word ++ jT (c.names ++ c.nums.map tOf ++ restC c)
theorem jT_nil : jT [] = [] := rfl
theorem jT_cons (x : List UInt8) (r : List (List UInt8)) : jT (x :: r) = 32 :: x ++ jT r := rfl
theorem jT_app (a b : List (List UInt8)) : jT (a ++ b) = jT a ++ jT b := by
  unfold jT Lib.joinTail
  rw [List.map_append, List.flatten_append]
theorem join_tail (x : List UInt8) : ∀ (r : List (List UInt8)), Lib.join (x :: r) [32] = x ++ jT r
  | [] => by simp [Lib.join, jT_nil]
  | y :: r => by
    have ih := join_tail y r
    unfold Lib.join at ih ⊢
    rw [List.intercalate_cons_cons, ih, jT_cons]
    simp
theorem ap_bA (a b : List UInt8) : bA a ++ bA b = bA (a ++ b) := by
  apply ByteArray.ext
  apply Array.toList_inj.1
  rw [ByteArray.data_append, Array.toList_append]
  rfl
theorem ap_sp (a : List UInt8) : bA a ++ ⟨#[32]⟩ = bA (a ++ [32]) := ap_bA a [32]
theorem drop_B {α : Type} {l : List α} {i : Nat} {d : α} (h : i < l.length) : l.drop i = l.getD i d :: l.drop (i + 1) := by
  rw [List.drop_eq_getElem_cons h, List.getD_eq_getElem?_getD, List.getElem?_eq_getElem h]; rfl
theorem getD_fits {l : List Int} (h : ∀ n ∈ l, fits n) (i : Nat) : fits (l.getD i 0) := by
  by_cases hi : i < l.length
  · rw [List.getD_eq_getElem?_getD, List.getElem?_eq_getElem hi]; exact h _ (List.getElem_mem hi)
  · rw [List.getD_eq_getElem?_getD, List.getElem?_eq_none (by omega)]; decide
set_option maxHeartbeats 4000000 in
theorem rline_ok (c : Cm) (h1 : c.names.length ≤ 1000) (h2 : c.nums.length ≤ 1000) (hn : ∀ n ∈ c.nums, fits n) (hL : (lineC c).length ≤ 100000) : Ok Tryd.prog 12 [cmP c] (vS (bA (lineC c))) := by
  obtain ⟨w, ns, ms, rt⟩ := c
  simp only at h1 h2 hn
  obtain ⟨X, hX⟩ : ∃ X, X = lineC ⟨w, ns, ms, rt⟩ := ⟨_, rfl⟩
  rw [← hX] at hL ⊢
  obtain ⟨rs, hrs⟩ : ∃ rs, rs = restC ⟨w, ns, ms, rt⟩ := ⟨_, rfl⟩
  have hX0 : w ++ jT (ns ++ ms.map tOf ++ rs) = X := by rw [hX, hrs]; rfl
  have c1 := asks_ok w
  unfold cmP
  simp only
  refine Ok.of_pwp (by kernel_rfl) Tryd.func12 rfl (by kernel_rfl) (by kernel_rfl) ?_
  simp (implicitDefEqProofs := false) (disch := omega) only [go_sem, simprocAttr, go_sem, Nat.le_refl, Int.toNat_natCast, Int.toNat_zero, Int.toNat_one, str_eq, sz_bA, tl_bA, encI_len, ↓ix_enc, decide_true, Tryd.results12, ap_bA, ap_sp, List.length_append, List.size_toArray, List.length_cons, List.length_nil, Nat.zero_add, Int.cast_ofNat_Int]
  refine p_loop (ι := { p : Nat × List UInt8 // p.1 ≤ ns.length ∧ p.2 ++ jT (ns.drop p.1 ++ ms.map tOf ++ rs) = X })
    (fun p => ⟨[(14, vI p.1.1), (13, vI ns.length), (3, vS (bA p.1.2)), (1, .ptr 0 0)], [(0, .box 25 [vS (bA w), .sl (encB ns), .sl (encI ms), vS (bA rt)])], [], 1, 0⟩) (fun p => ns.length - p.1.1) ⟨(0, w), Nat.zero_le _, hX0⟩ ?_ ?_
  · refine ⟨?_, ?_, ?_, ?_, ?_, ?_, ?_⟩ <;> simp only [go_sem, simprocAttr, decide_eq_true_eq, Int.natCast_zero] <;> try first | omega | ((repeat' (first | exact And.intro rfl (by omega) | (refine And.intro ?_ ?_))) <;> first | rfl | omega | (congr 3; omega) | (congr 2; omega))
  · rintro ⟨⟨i, a⟩, k1, k2⟩
    simp only at k1 k2 ⊢
    have hal := congrArg List.length k2
    simp only [List.length_append] at hal
    by_cases hi : i < ns.length
    · rw [drop_B (d := []) hi, List.cons_append, List.cons_append, jT_cons] at k2
      have hal2 := congrArg List.length k2
      simp only [List.length_append, List.length_cons] at hal2
      simp (implicitDefEqProofs := false) (disch := omega) only [go_sem, simprocAttr, go_sem, Nat.le_refl, Int.toNat_natCast, Int.toNat_zero, Int.toNat_one, str_eq, sz_bA, tl_bA, encI_len, ↓ix_enc, decide_true, Tryd.results12, ap_bA, ap_sp, List.length_append, List.size_toArray, List.length_cons, List.length_nil, Nat.zero_add, Int.cast_ofNat_Int]
      refine ⟨⟨(i + 1, a ++ [32] ++ ns.getD i []), hi, by rw [← k2]; simp⟩, by simp only; omega, ?_⟩
      refine ⟨?_, ?_, ?_, ?_, ?_, ?_, ?_⟩ <;> simp only [go_sem, simprocAttr, decide_eq_true_eq, Int.natCast_add, Int.natCast_one] <;> try first | omega | ((repeat' (first | exact And.intro rfl (by omega) | (refine And.intro ?_ ?_))) <;> first | rfl | omega | (congr 3; omega) | (congr 2; omega))
    · have hi' : i = ns.length := by omega
      subst hi'
      rw [List.drop_length, List.nil_append] at k2
      simp (implicitDefEqProofs := false) (disch := omega) only [go_sem, simprocAttr, go_sem, Nat.le_refl, Int.toNat_natCast, Int.toNat_zero, Int.toNat_one, str_eq, sz_bA, tl_bA, encI_len, ↓ix_enc, decide_true, Tryd.results12, ap_bA, ap_sp, List.length_append, List.size_toArray, List.length_cons, List.length_nil, Nat.zero_add, Int.cast_ofNat_Int]
      refine p_loop (ι := { p : Nat × List UInt8 // p.1 ≤ ms.length ∧ p.2 ++ jT ((ms.drop p.1).map tOf ++ rs) = X })
        (fun p => ⟨[(29, vI p.1.1), (28, vI ms.length), (3, vS (bA p.1.2)), (1, .ptr 0 0)], [(0, .box 25 [vS (bA w), .sl (encB ns), .sl (encI ms), vS (bA rt)])], [], 1, 0⟩) (fun p => ms.length - p.1.1) ⟨(0, a), Nat.zero_le _, k2⟩ ?_ ?_
      · refine ⟨?_, ?_, ?_, ?_, ?_, ?_, ?_⟩ <;> simp only [go_sem, simprocAttr, decide_eq_true_eq, Int.natCast_zero] <;> try first | omega | ((repeat' (first | exact And.intro rfl (by omega) | (refine And.intro ?_ ?_))) <;> first | rfl | omega | (congr 3; omega) | (congr 2; omega))
      · rintro ⟨⟨j, b⟩, g1, g2⟩
        simp only at g1 g2 ⊢
        have hbl := congrArg List.length g2
        simp only [List.length_append] at hbl
        by_cases hj : j < ms.length
        · have hf := getD_fits hn j
          have c2 := of_rep (ms.getD j 0) hf
          have c3 := rtextB_ok (ms.getD j 0) hf
          rw [drop_B (d := 0) hj, List.map_cons, List.cons_append, jT_cons] at g2
          have hbl2 := congrArg List.length g2
          simp only [List.length_append, List.length_cons] at hbl2
          simp (implicitDefEqProofs := false) (disch := omega) only [go_sem, simprocAttr, go_sem, Nat.le_refl, Int.toNat_natCast, Int.toNat_zero, Int.toNat_one, str_eq, sz_bA, tl_bA, encI_len, ↓ix_enc, decide_true, Tryd.results12, ap_bA, ap_sp, List.length_append, List.size_toArray, List.length_cons, List.length_nil, Nat.zero_add, Int.cast_ofNat_Int]
          with_reducible refine CallOk.of c2 rfl ?_
          simp (implicitDefEqProofs := false) (disch := omega) only [go_sem, simprocAttr, go_sem, Nat.le_refl, Int.toNat_natCast, Int.toNat_zero, Int.toNat_one, str_eq, sz_bA, tl_bA, encI_len, ↓ix_enc, decide_true, Tryd.results12, ap_bA, ap_sp, List.length_append, List.size_toArray, List.length_cons, List.length_nil, Nat.zero_add, Int.cast_ofNat_Int]
          with_reducible refine CallOk.of c3 rfl ?_
          simp (implicitDefEqProofs := false) (disch := omega) only [go_sem, simprocAttr, go_sem, Nat.le_refl, Int.toNat_natCast, Int.toNat_zero, Int.toNat_one, str_eq, sz_bA, tl_bA, encI_len, ↓ix_enc, decide_true, Tryd.results12, ap_bA, ap_sp, List.length_append, List.size_toArray, List.length_cons, List.length_nil, Nat.zero_add, Int.cast_ofNat_Int]
          refine ⟨⟨(j + 1, b ++ [32] ++ tOf (ms.getD j 0)), hj, by simpa using g2⟩, by simp only; omega, ?_⟩
          refine ⟨?_, ?_, ?_, ?_, ?_, ?_, ?_⟩ <;> simp only [go_sem, simprocAttr, decide_eq_true_eq, Int.natCast_add, Int.natCast_one] <;> try first | omega | ((repeat' (first | exact And.intro rfl (by omega) | (refine And.intro ?_ ?_))) <;> first | rfl | omega | (congr 3; omega) | (congr 2; omega))
        · have hj' : j = ms.length := by omega
          subst hj'
          rw [List.drop_length, List.map_nil, List.nil_append] at g2
          cases ha : asks w with
          | none =>
            rw [ha] at c1
            unfold askP at c1
            simp only at c1
            have hr0 : rs = [] := by rw [hrs]; unfold restC; simp only; rw [ha]
            rw [hr0, jT_nil, List.append_nil] at g2
            simp (implicitDefEqProofs := false) (disch := omega) only [go_sem, simprocAttr, go_sem, Nat.le_refl, Int.toNat_natCast, Int.toNat_zero, Int.toNat_one, str_eq, sz_bA, tl_bA, encI_len, ↓ix_enc, decide_true, Tryd.results12, ap_bA, ap_sp, List.length_append, List.size_toArray, List.length_cons, List.length_nil, Nat.zero_add, Int.cast_ofNat_Int]
            with_reducible refine CallOk.of c1 rfl ?_
            simp (implicitDefEqProofs := false) (disch := omega) only [go_sem, simprocAttr, go_sem, Nat.le_refl, Int.toNat_natCast, Int.toNat_zero, Int.toNat_one, str_eq, sz_bA, tl_bA, encI_len, ↓ix_enc, decide_true, Tryd.results12, ap_bA, ap_sp, List.length_append, List.size_toArray, List.length_cons, List.length_nil, Nat.zero_add, Int.cast_ofNat_Int, g2]
          | some q =>
            obtain ⟨x, y, r⟩ := q
            rw [ha] at c1
            unfold askP at c1
            simp only at c1
            cases r with
            | false =>
              have hr0 : rs = [] := by rw [hrs]; unfold restC; simp only; rw [ha]
              rw [hr0, jT_nil, List.append_nil] at g2
              simp (implicitDefEqProofs := false) (disch := omega) only [go_sem, simprocAttr, go_sem, Nat.le_refl, Int.toNat_natCast, Int.toNat_zero, Int.toNat_one, str_eq, sz_bA, tl_bA, encI_len, ↓ix_enc, decide_true, Tryd.results12, ap_bA, ap_sp, List.length_append, List.size_toArray, List.length_cons, List.length_nil, Nat.zero_add, Int.cast_ofNat_Int]
              with_reducible refine CallOk.of c1 rfl ?_
              simp (implicitDefEqProofs := false) (disch := omega) only [go_sem, simprocAttr, go_sem, Nat.le_refl, Int.toNat_natCast, Int.toNat_zero, Int.toNat_one, str_eq, sz_bA, tl_bA, encI_len, ↓ix_enc, decide_true, Tryd.results12, ap_bA, ap_sp, List.length_append, List.size_toArray, List.length_cons, List.length_nil, Nat.zero_add, Int.cast_ofNat_Int, g2]
            | true =>
              have hr0 : rs = [rt] := by rw [hrs]; unfold restC; simp only; rw [ha]
              rw [hr0, jT_cons, jT_nil, List.append_nil] at g2
              have hbl2 := congrArg List.length g2
              simp only [List.length_append, List.length_cons] at hbl2
              have g3 : b ++ [32] ++ rt = X := by rw [← g2]; simp
              simp (implicitDefEqProofs := false) (disch := omega) only [go_sem, simprocAttr, go_sem, Nat.le_refl, Int.toNat_natCast, Int.toNat_zero, Int.toNat_one, str_eq, sz_bA, tl_bA, encI_len, ↓ix_enc, decide_true, Tryd.results12, ap_bA, ap_sp, List.length_append, List.size_toArray, List.length_cons, List.length_nil, Nat.zero_add, Int.cast_ofNat_Int]
              with_reducible refine CallOk.of c1 rfl ?_
              simp (implicitDefEqProofs := false) (disch := omega) only [go_sem, simprocAttr, go_sem, Nat.le_refl, Int.toNat_natCast, Int.toNat_zero, Int.toNat_one, str_eq, sz_bA, tl_bA, encI_len, ↓ix_enc, decide_true, Tryd.results12, ap_bA, ap_sp, List.length_append, List.size_toArray, List.length_cons, List.length_nil, Nat.zero_add, Int.cast_ofNat_Int, g3]
              try omega
theorem jT_len : ∀ (l : List (List UInt8)), l.length ≤ (jT l).length
  | [] => Nat.le_refl _
  | x :: r => by have := jT_len r; rw [jT_cons, List.length_append, List.length_cons, List.length_cons]; omega
theorem encB_nil : encB [] = [] := rfl
theorem encB_cons (x : List UInt8) (r : List (List UInt8)) : encB (x :: r) = [vS (bA x)] :: encB r := rfl
set_option maxHeartbeats 4000000 in
theorem line_ok (c : Cm) (h1 : c.names.length ≤ 1000) (h2 : c.nums.length ≤ 1000) (hn : ∀ n ∈ c.nums, fits n) (hL : (lineC c).length ≤ 100000) : Ok Tryd.prog 24 [cmP c] (vS (bA (lineC c))) := by
  obtain ⟨w, ns, ms, rt⟩ := c
  simp only at h1 h2 hn
  obtain ⟨rs, hrs⟩ : ∃ rs, rs = restC ⟨w, ns, ms, rt⟩ := ⟨_, rfl⟩
  have hX : lineC ⟨w, ns, ms, rt⟩ = w ++ jT (ns ++ ms.map tOf ++ rs) := by rw [hrs]; rfl
  rw [hX] at hL ⊢
  have c1 := shaped_ok w
  have c2 := joinB_ok (w :: (ns ++ ms.map tOf ++ rs)) [32] (by simp) (by
    have := jT_len (ns ++ ms.map tOf ++ rs)
    rw [List.length_append] at hL
    rw [List.length_cons]
    omega) (by rw [join_tail]; omega)
  rw [join_tail] at c2
  unfold cmP
  simp only
  refine Ok.of_pwp (by kernel_rfl) Tryd.func24 rfl (by kernel_rfl) (by kernel_rfl) ?_
  cases ns with
  | nil =>
    rw [encB_nil]
    simp (implicitDefEqProofs := false) (disch := omega) only [go_sem, simprocAttr, go_sem, Nat.le_refl, Int.toNat_natCast, Int.toNat_zero, Int.toNat_one, str_eq, sz_bA, tl_bA, encI_len, ↓ix_enc, decide_true, Tryd.results24, ap_bA, ap_sp, List.length_append, List.size_toArray, List.length_cons, List.length_nil, Nat.zero_add, Int.cast_ofNat_Int, encB_snoc, Delta.val, sliceLike]
    refine p_loop (ι := { p : Nat × List (List UInt8) // p.1 ≤ ms.length ∧ p.2 ++ (ms.drop p.1).map tOf = w :: ([] ++ ms.map tOf) })
      (fun p => ⟨[(17, vI p.1.1), (16, vI ms.length), (15, .sl (encI ms)), (3, .row 4 (encB p.1.2)), (1, .ptr 0 0)], [(0, .box 33 [vS (bA w), .sl (encB []), .sl (encI ms), vS (bA rt)])], [(4, ⟨9, 1, p.1.2.length⟩)], 5, 5⟩) (fun p => ms.length - p.1.1) ⟨(0, w :: []), Nat.zero_le _, by simp⟩ ?_ ?_
    · refine ⟨?_, ?_, ?_, ?_, ?_, ?_, ?_⟩ <;> simp only [go_sem, simprocAttr, decide_eq_true_eq, Int.natCast_zero, encB_cons, encB_nil, encB_len, List.length_cons, List.length_nil] <;> try first | omega | ((repeat' (first | exact And.intro rfl (by omega) | (refine And.intro ?_ ?_))) <;> first | rfl | omega | (congr 3; omega) | (congr 2; omega))
    · rintro ⟨⟨j, L⟩, g1, g2⟩
      simp only at g1 g2 ⊢
      have gl := congrArg List.length g2
      simp only [List.length_append, List.length_map, List.length_cons, List.length_drop] at gl
      by_cases hj : j < ms.length
      · have hf := getD_fits hn j
        have c3 := textB_ok (ms.getD j 0) hf
        rw [drop_B (d := 0) hj, List.map_cons] at g2
        simp (implicitDefEqProofs := false) (disch := omega) only [go_sem, simprocAttr, go_sem, Nat.le_refl, Int.toNat_natCast, Int.toNat_zero, Int.toNat_one, str_eq, sz_bA, tl_bA, encI_len, ↓ix_enc, decide_true, Tryd.results24, ap_bA, ap_sp, List.length_append, List.size_toArray, List.length_cons, List.length_nil, Nat.zero_add, Int.cast_ofNat_Int, encB_snoc, Delta.val, sliceLike]
        with_reducible refine CallOk.of c3 rfl ?_
        simp (implicitDefEqProofs := false) (disch := omega) only [go_sem, simprocAttr, go_sem, Nat.le_refl, Int.toNat_natCast, Int.toNat_zero, Int.toNat_one, str_eq, sz_bA, tl_bA, encI_len, ↓ix_enc, decide_true, Tryd.results24, ap_bA, ap_sp, List.length_append, List.size_toArray, List.length_cons, List.length_nil, Nat.zero_add, Int.cast_ofNat_Int, encB_snoc, Delta.val, sliceLike]
        first
          | refine ⟨⟨(j + 1, L ++ [tOf (ms.getD j 0)]), hj, by simpa using g2⟩, by simp only; omega, ?_⟩
          | refine ⟨(by first | omega | (simp only [encB_len]; omega)), ⟨(j + 1, L ++ [tOf (ms.getD j 0)]), hj, by simpa using g2⟩, by simp only; omega, ?_⟩
          | refine ⟨(by first | omega | (simp only [encB_len]; omega)), (by first | omega | (simp only [encB_len]; omega)), ⟨(j + 1, L ++ [tOf (ms.getD j 0)]), hj, by simpa using g2⟩, by simp only; omega, ?_⟩
          | refine ⟨(by first | omega | (simp only [encB_len]; omega)), (by first | omega | (simp only [encB_len]; omega)), (by first | omega | (simp only [encB_len]; omega)), ⟨(j + 1, L ++ [tOf (ms.getD j 0)]), hj, by simpa using g2⟩, by simp only; omega, ?_⟩
        refine ⟨?_, ?_, ?_, ?_, ?_, ?_, ?_⟩ <;> simp only [go_sem, simprocAttr, decide_eq_true_eq, Int.natCast_add, Int.natCast_one, encB_snoc, encB_len, List.length_append, List.length_cons, List.length_nil] <;> try first | omega | ((repeat' (first | exact And.intro rfl (by omega) | (refine And.intro ?_ ?_))) <;> first | rfl | omega | (congr 3; omega) | (congr 2; omega))
      · have hj' : j = ms.length := by omega
        subst hj'
        rw [List.drop_length, List.map_nil, List.append_nil] at g2
        subst g2
        cases ha : asks w with
        | none =>
          rw [ha] at c1
          unfold shpP at c1
          simp only at c1
          have hr0 : rs = [] := by rw [hrs]; unfold restC; simp only; rw [ha]
          rw [hr0] at c2 ⊢
          rw [List.append_nil] at c2 ⊢
          simp (implicitDefEqProofs := false) (disch := omega) only [go_sem, simprocAttr, go_sem, Nat.le_refl, Int.toNat_natCast, Int.toNat_zero, Int.toNat_one, str_eq, sz_bA, tl_bA, encI_len, ↓ix_enc, decide_true, Tryd.results24, ap_bA, ap_sp, List.length_append, List.size_toArray, List.length_cons, List.length_nil, Nat.zero_add, Int.cast_ofNat_Int, encB_snoc, Delta.val, sliceLike]
          with_reducible refine CallOk.of c1 rfl ?_
          simp (implicitDefEqProofs := false) (disch := omega) only [go_sem, simprocAttr, go_sem, Nat.le_refl, Int.toNat_natCast, Int.toNat_zero, Int.toNat_one, str_eq, sz_bA, tl_bA, encI_len, ↓ix_enc, decide_true, Tryd.results24, ap_bA, ap_sp, List.length_append, List.size_toArray, List.length_cons, List.length_nil, Nat.zero_add, Int.cast_ofNat_Int, encB_snoc, Delta.val, sliceLike]
          refine CallOk.of c2 rfl ?_
          simp (implicitDefEqProofs := false) (disch := omega) only [go_sem, simprocAttr, go_sem, Nat.le_refl, Int.toNat_natCast, Int.toNat_zero, Int.toNat_one, str_eq, sz_bA, tl_bA, encI_len, ↓ix_enc, decide_true, Tryd.results24, ap_bA, ap_sp, List.length_append, List.size_toArray, List.length_cons, List.length_nil, Nat.zero_add, Int.cast_ofNat_Int, encB_snoc, Delta.val, sliceLike]
        | some q =>
          obtain ⟨x, y, r⟩ := q
          rw [ha] at c1
          unfold shpP at c1
          simp only at c1
          cases r with
          | false =>
            have hr0 : rs = [] := by rw [hrs]; unfold restC; simp only; rw [ha]
            rw [hr0] at c2 ⊢
            rw [List.append_nil] at c2 ⊢
            simp (implicitDefEqProofs := false) (disch := omega) only [go_sem, simprocAttr, go_sem, Nat.le_refl, Int.toNat_natCast, Int.toNat_zero, Int.toNat_one, str_eq, sz_bA, tl_bA, encI_len, ↓ix_enc, decide_true, Tryd.results24, ap_bA, ap_sp, List.length_append, List.size_toArray, List.length_cons, List.length_nil, Nat.zero_add, Int.cast_ofNat_Int, encB_snoc, Delta.val, sliceLike]
            with_reducible refine CallOk.of c1 rfl ?_
            simp (implicitDefEqProofs := false) (disch := omega) only [go_sem, simprocAttr, go_sem, Nat.le_refl, Int.toNat_natCast, Int.toNat_zero, Int.toNat_one, str_eq, sz_bA, tl_bA, encI_len, ↓ix_enc, decide_true, Tryd.results24, ap_bA, ap_sp, List.length_append, List.size_toArray, List.length_cons, List.length_nil, Nat.zero_add, Int.cast_ofNat_Int, encB_snoc, Delta.val, sliceLike]
            refine CallOk.of c2 rfl ?_
            simp (implicitDefEqProofs := false) (disch := omega) only [go_sem, simprocAttr, go_sem, Nat.le_refl, Int.toNat_natCast, Int.toNat_zero, Int.toNat_one, str_eq, sz_bA, tl_bA, encI_len, ↓ix_enc, decide_true, Tryd.results24, ap_bA, ap_sp, List.length_append, List.size_toArray, List.length_cons, List.length_nil, Nat.zero_add, Int.cast_ofNat_Int, encB_snoc, Delta.val, sliceLike]
          | true =>
            have hr0 : rs = [rt] := by rw [hrs]; unfold restC; simp only; rw [ha]
            rw [hr0] at c2 ⊢
            simp (implicitDefEqProofs := false) (disch := omega) only [go_sem, simprocAttr, go_sem, Nat.le_refl, Int.toNat_natCast, Int.toNat_zero, Int.toNat_one, str_eq, sz_bA, tl_bA, encI_len, ↓ix_enc, decide_true, Tryd.results24, ap_bA, ap_sp, List.length_append, List.size_toArray, List.length_cons, List.length_nil, Nat.zero_add, Int.cast_ofNat_Int, encB_snoc, Delta.val, sliceLike]
            with_reducible refine CallOk.of c1 rfl ?_
            simp (implicitDefEqProofs := false) (disch := omega) only [go_sem, simprocAttr, go_sem, Nat.le_refl, Int.toNat_natCast, Int.toNat_zero, Int.toNat_one, str_eq, sz_bA, tl_bA, encI_len, ↓ix_enc, decide_true, Tryd.results24, ap_bA, ap_sp, List.length_append, List.size_toArray, List.length_cons, List.length_nil, Nat.zero_add, Int.cast_ofNat_Int, encB_snoc, Delta.val, sliceLike]
            refine ⟨(by first | omega | (simp only [List.length_map, List.length_append, List.length_cons, List.length_nil]; omega)), (by first | omega | (simp only [List.length_map, List.length_append, List.length_cons, List.length_nil]; omega)), ?_⟩
            refine CallOk.of c2 rfl ?_
            simp (implicitDefEqProofs := false) (disch := omega) only [go_sem, simprocAttr, go_sem, Nat.le_refl, Int.toNat_natCast, Int.toNat_zero, Int.toNat_one, str_eq, sz_bA, tl_bA, encI_len, ↓ix_enc, decide_true, Tryd.results24, ap_bA, ap_sp, List.length_append, List.size_toArray, List.length_cons, List.length_nil, Nat.zero_add, Int.cast_ofNat_Int, encB_snoc, Delta.val, sliceLike]
  | cons n0 nr =>
    rw [encB_cons]
    simp only [List.length_cons] at h1
    simp (implicitDefEqProofs := false) (disch := omega) only [go_sem, simprocAttr, go_sem, Nat.le_refl, Int.toNat_natCast, Int.toNat_zero, Int.toNat_one, str_eq, sz_bA, tl_bA, encI_len, ↓ix_enc, decide_true, Tryd.results24, ap_bA, ap_sp, List.length_append, List.size_toArray, List.length_cons, List.length_nil, Nat.zero_add, Int.cast_ofNat_Int, encB_snoc, Delta.val, sliceLike]
    refine p_loop (ι := { p : Nat × List (List UInt8) // p.1 ≤ ms.length ∧ p.2 ++ (ms.drop p.1).map tOf = w :: ((n0 :: nr) ++ ms.map tOf) })
      (fun p => ⟨[(17, vI p.1.1), (16, vI ms.length), (15, .sl (encI ms)), (3, .row 4 (encB p.1.2)), (1, .ptr 0 0)], [(0, .box 33 [vS (bA w), .sl (encB (n0 :: nr)), .sl (encI ms), vS (bA rt)])], [(4, ⟨9, 1, p.1.2.length⟩)], 5, 5⟩) (fun p => ms.length - p.1.1) ⟨(0, w :: (n0 :: nr)), Nat.zero_le _, by simp⟩ ?_ ?_
    · refine ⟨?_, ?_, ?_, ?_, ?_, ?_, ?_⟩ <;> simp only [go_sem, simprocAttr, decide_eq_true_eq, Int.natCast_zero, encB_cons, encB_nil, encB_len, List.length_cons, List.length_nil] <;> try first | omega | ((repeat' (first | exact And.intro rfl (by omega) | (refine And.intro ?_ ?_))) <;> first | rfl | omega | (congr 3; omega) | (congr 2; omega))
    · rintro ⟨⟨j, L⟩, g1, g2⟩
      simp only at g1 g2 ⊢
      have gl := congrArg List.length g2
      simp only [List.length_append, List.length_map, List.length_cons, List.length_drop] at gl
      by_cases hj : j < ms.length
      · have hf := getD_fits hn j
        have c3 := textB_ok (ms.getD j 0) hf
        rw [drop_B (d := 0) hj, List.map_cons] at g2
        simp (implicitDefEqProofs := false) (disch := omega) only [go_sem, simprocAttr, go_sem, Nat.le_refl, Int.toNat_natCast, Int.toNat_zero, Int.toNat_one, str_eq, sz_bA, tl_bA, encI_len, ↓ix_enc, decide_true, Tryd.results24, ap_bA, ap_sp, List.length_append, List.size_toArray, List.length_cons, List.length_nil, Nat.zero_add, Int.cast_ofNat_Int, encB_snoc, Delta.val, sliceLike]
        with_reducible refine CallOk.of c3 rfl ?_
        simp (implicitDefEqProofs := false) (disch := omega) only [go_sem, simprocAttr, go_sem, Nat.le_refl, Int.toNat_natCast, Int.toNat_zero, Int.toNat_one, str_eq, sz_bA, tl_bA, encI_len, ↓ix_enc, decide_true, Tryd.results24, ap_bA, ap_sp, List.length_append, List.size_toArray, List.length_cons, List.length_nil, Nat.zero_add, Int.cast_ofNat_Int, encB_snoc, Delta.val, sliceLike]
        first
          | refine ⟨⟨(j + 1, L ++ [tOf (ms.getD j 0)]), hj, by simpa using g2⟩, by simp only; omega, ?_⟩
          | refine ⟨(by first | omega | (simp only [encB_len]; omega)), ⟨(j + 1, L ++ [tOf (ms.getD j 0)]), hj, by simpa using g2⟩, by simp only; omega, ?_⟩
          | refine ⟨(by first | omega | (simp only [encB_len]; omega)), (by first | omega | (simp only [encB_len]; omega)), ⟨(j + 1, L ++ [tOf (ms.getD j 0)]), hj, by simpa using g2⟩, by simp only; omega, ?_⟩
          | refine ⟨(by first | omega | (simp only [encB_len]; omega)), (by first | omega | (simp only [encB_len]; omega)), (by first | omega | (simp only [encB_len]; omega)), ⟨(j + 1, L ++ [tOf (ms.getD j 0)]), hj, by simpa using g2⟩, by simp only; omega, ?_⟩
        refine ⟨?_, ?_, ?_, ?_, ?_, ?_, ?_⟩ <;> simp only [go_sem, simprocAttr, decide_eq_true_eq, Int.natCast_add, Int.natCast_one, encB_snoc, encB_len, List.length_append, List.length_cons, List.length_nil] <;> try first | omega | ((repeat' (first | exact And.intro rfl (by omega) | (refine And.intro ?_ ?_))) <;> first | rfl | omega | (congr 3; omega) | (congr 2; omega))
      · have hj' : j = ms.length := by omega
        subst hj'
        rw [List.drop_length, List.map_nil, List.append_nil] at g2
        subst g2
        cases ha : asks w with
        | none =>
          rw [ha] at c1
          unfold shpP at c1
          simp only at c1
          have hr0 : rs = [] := by rw [hrs]; unfold restC; simp only; rw [ha]
          rw [hr0] at c2 ⊢
          rw [List.append_nil] at c2 ⊢
          simp (implicitDefEqProofs := false) (disch := omega) only [go_sem, simprocAttr, go_sem, Nat.le_refl, Int.toNat_natCast, Int.toNat_zero, Int.toNat_one, str_eq, sz_bA, tl_bA, encI_len, ↓ix_enc, decide_true, Tryd.results24, ap_bA, ap_sp, List.length_append, List.size_toArray, List.length_cons, List.length_nil, Nat.zero_add, Int.cast_ofNat_Int, encB_snoc, Delta.val, sliceLike]
          with_reducible refine CallOk.of c1 rfl ?_
          simp (implicitDefEqProofs := false) (disch := omega) only [go_sem, simprocAttr, go_sem, Nat.le_refl, Int.toNat_natCast, Int.toNat_zero, Int.toNat_one, str_eq, sz_bA, tl_bA, encI_len, ↓ix_enc, decide_true, Tryd.results24, ap_bA, ap_sp, List.length_append, List.size_toArray, List.length_cons, List.length_nil, Nat.zero_add, Int.cast_ofNat_Int, encB_snoc, Delta.val, sliceLike]
          refine CallOk.of c2 rfl ?_
          simp (implicitDefEqProofs := false) (disch := omega) only [go_sem, simprocAttr, go_sem, Nat.le_refl, Int.toNat_natCast, Int.toNat_zero, Int.toNat_one, str_eq, sz_bA, tl_bA, encI_len, ↓ix_enc, decide_true, Tryd.results24, ap_bA, ap_sp, List.length_append, List.size_toArray, List.length_cons, List.length_nil, Nat.zero_add, Int.cast_ofNat_Int, encB_snoc, Delta.val, sliceLike]
        | some q =>
          obtain ⟨x, y, r⟩ := q
          rw [ha] at c1
          unfold shpP at c1
          simp only at c1
          cases r with
          | false =>
            have hr0 : rs = [] := by rw [hrs]; unfold restC; simp only; rw [ha]
            rw [hr0] at c2 ⊢
            rw [List.append_nil] at c2 ⊢
            simp (implicitDefEqProofs := false) (disch := omega) only [go_sem, simprocAttr, go_sem, Nat.le_refl, Int.toNat_natCast, Int.toNat_zero, Int.toNat_one, str_eq, sz_bA, tl_bA, encI_len, ↓ix_enc, decide_true, Tryd.results24, ap_bA, ap_sp, List.length_append, List.size_toArray, List.length_cons, List.length_nil, Nat.zero_add, Int.cast_ofNat_Int, encB_snoc, Delta.val, sliceLike]
            with_reducible refine CallOk.of c1 rfl ?_
            simp (implicitDefEqProofs := false) (disch := omega) only [go_sem, simprocAttr, go_sem, Nat.le_refl, Int.toNat_natCast, Int.toNat_zero, Int.toNat_one, str_eq, sz_bA, tl_bA, encI_len, ↓ix_enc, decide_true, Tryd.results24, ap_bA, ap_sp, List.length_append, List.size_toArray, List.length_cons, List.length_nil, Nat.zero_add, Int.cast_ofNat_Int, encB_snoc, Delta.val, sliceLike]
            refine CallOk.of c2 rfl ?_
            simp (implicitDefEqProofs := false) (disch := omega) only [go_sem, simprocAttr, go_sem, Nat.le_refl, Int.toNat_natCast, Int.toNat_zero, Int.toNat_one, str_eq, sz_bA, tl_bA, encI_len, ↓ix_enc, decide_true, Tryd.results24, ap_bA, ap_sp, List.length_append, List.size_toArray, List.length_cons, List.length_nil, Nat.zero_add, Int.cast_ofNat_Int, encB_snoc, Delta.val, sliceLike]
          | true =>
            have hr0 : rs = [rt] := by rw [hrs]; unfold restC; simp only; rw [ha]
            rw [hr0] at c2 ⊢
            simp (implicitDefEqProofs := false) (disch := omega) only [go_sem, simprocAttr, go_sem, Nat.le_refl, Int.toNat_natCast, Int.toNat_zero, Int.toNat_one, str_eq, sz_bA, tl_bA, encI_len, ↓ix_enc, decide_true, Tryd.results24, ap_bA, ap_sp, List.length_append, List.size_toArray, List.length_cons, List.length_nil, Nat.zero_add, Int.cast_ofNat_Int, encB_snoc, Delta.val, sliceLike]
            with_reducible refine CallOk.of c1 rfl ?_
            simp (implicitDefEqProofs := false) (disch := omega) only [go_sem, simprocAttr, go_sem, Nat.le_refl, Int.toNat_natCast, Int.toNat_zero, Int.toNat_one, str_eq, sz_bA, tl_bA, encI_len, ↓ix_enc, decide_true, Tryd.results24, ap_bA, ap_sp, List.length_append, List.size_toArray, List.length_cons, List.length_nil, Nat.zero_add, Int.cast_ofNat_Int, encB_snoc, Delta.val, sliceLike]
            refine ⟨(by first | omega | (simp only [List.length_map, List.length_append, List.length_cons, List.length_nil]; omega)), (by first | omega | (simp only [List.length_map, List.length_append, List.length_cons, List.length_nil]; omega)), ?_⟩
            refine CallOk.of c2 rfl ?_
            simp (implicitDefEqProofs := false) (disch := omega) only [go_sem, simprocAttr, go_sem, Nat.le_refl, Int.toNat_natCast, Int.toNat_zero, Int.toNat_one, str_eq, sz_bA, tl_bA, encI_len, ↓ix_enc, decide_true, Tryd.results24, ap_bA, ap_sp, List.length_append, List.size_toArray, List.length_cons, List.length_nil, Nat.zero_add, Int.cast_ofNat_Int, encB_snoc, Delta.val, sliceLike]
end Go.Proofs.YtegehnojbfedlaaDoor

end
section
/-
  Chapter 25: what is parsed of a line of pieces.
-/
open Go Go.Proofs Go.Pw Go.RowKit
namespace Go.Proofs.YtegehnojbfedlaaDoor
set_option maxRecDepth 4000
set_option linter.unusedVariables false
set_option linter.unusedSimpArgs false
def blk (g : List UInt8) : Prop := ∀ b ∈ g, isb b = true
/-- A piece: no blank in it. -/
def nbk (p : List UInt8) : Prop := p ≠ [] ∧ ∀ b ∈ p, isb b = false
/-- Nothing, or a blank first. -/
def endB (t : List UInt8) : Prop := t = [] ∨ ∃ b r, t = b :: r ∧ isb b = true
theorem skp_blk : ∀ {g : List UInt8} (t : List UInt8), blk g → skp (g ++ t) = skp t
  | [], t, _ => rfl
  | b :: r, t, h => by
    unfold skp
    rw [List.cons_append, List.dropWhile_cons, if_pos (h b (by simp))]
    exact skp_blk t (fun c hc => h c (by simp [hc]))
theorem skp_nb {p : List UInt8} (t : List UInt8) (h : nbk p) : skp (p ++ t) = p ++ t := by
  cases p with
  | nil => exact absurd rfl h.1
  | cons b r => exact skp_cons.2 (h.2 b (by simp))
theorem nbt_app : ∀ {p t : List UInt8}, (∀ b ∈ p, isb b = false) → endB t → nbt (p ++ t) = p ∧ nbr (p ++ t) = t
  | [], t, _, h => by
    rcases h with rfl | ⟨b, r, rfl, hb⟩
    · exact ⟨rfl, rfl⟩
    · unfold nbt nbr
      simp [hb]
  | b :: p, t, hp, h => by
    have hb := hp b (by simp)
    have ih := nbt_app (p := p) (t := t) (fun c hc => hp c (by simp [hc])) h
    unfold nbt nbr at ih ⊢
    simp only [List.cons_append, List.takeWhile_cons, List.dropWhile_cons, hb, Bool.not_false, if_true]
    exact ⟨by rw [ih.1], ih.2⟩
theorem seg_skp {g p : List UInt8} (t : List UInt8) (hg : blk g) (hp : nbk p) : skp (g ++ (p ++ t)) = p ++ t := by rw [skp_blk _ hg, skp_nb t hp]
theorem seg_wrd {g p t : List UInt8} (hg : blk g) (hp : nbk p) (ht : endB t) : wrd (g ++ (p ++ t)) = p ∧ rst (g ++ (p ++ t)) = t := by
  unfold wrd rst
  rw [seg_skp t hg hp]
  exact nbt_app hp.2 ht
theorem name_nb {p : List UInt8} (h : nameL p = true) : nbk p := by
  cases p with
  | nil => cases h
  | cons b r =>
    simp only [nameL, Bool.and_eq_true, List.all_eq_true] at h
    refine ⟨by simp, fun c hc => ?_⟩
    rcases List.mem_cons.1 hc with rfl | hc
    · exact ltr_nb h.1
    · exact go_nb (h.2 c hc)
theorem dig_nb {b : UInt8} (h : isD b.toNat) : isb b = false := by
  apply Bool.eq_false_iff.2
  intro k
  have := (isb_I b).1 k
  unfold isD at h
  omega
theorem text_nb (n : Int) : nbk (tOf n) := by
  have hall : ∀ b ∈ Lib.decDigits n.natAbs, isb b = false := fun b hb => by
    obtain ⟨j, hj⟩ := List.mem_iff_getElem?.1 hb
    have hlt := (List.getElem?_eq_some_iff.1 hj).1
    have := dS_all n.natAbs j (by rw [dS_size, ← dD_len]; exact hlt) (Nat.zero_le _)
    have e : bt (dS n.natAbs) (j : Nat) = (b.toNat : Int) := bt_list (s := dS n.natAbs) hj
    rw [e] at this
    exact dig_nb this
  by_cases h : n < 0
  · have e : tOf n = 45 :: Lib.decDigits n.natAbs := by
      unfold tOf
      rw [← sOf_neg h, ByteArray.data_append, Array.toList_append]
      rfl
    rw [e]
    refine ⟨by simp, fun b hb => ?_⟩
    rcases List.mem_cons.1 hb with rfl | hb
    · decide
    · exact hall b hb
  · have e : tOf n = Lib.decDigits n.natAbs := by
      unfold tOf
      rw [sOf_pos (by omega)]
    rw [e]
    exact ⟨fun k => by have := dD_len n.natAbs; have := Lib.nDigits_pos n.natAbs; rw [k] at *; simp at *; omega, hall⟩
theorem word_nb {w : List UInt8} {q : Nat × Nat × Bool} (h : asks w = some q) : nbk w := by
  have g := asks_some h
  have : ∀ x ∈ words, x.1 ≠ [] ∧ ∀ b ∈ x.1, isb b = false := by decide
  exact this _ g
/-- Pieces, each with what is blank in front of it. -/
abbrev Gp := List UInt8 × List UInt8
def catG (l : List Gp) : List UInt8 := (l.map fun x => x.1 ++ x.2).flatten
def okG (x : Gp) : Prop := x.1 ≠ [] ∧ blk x.1 ∧ nbk x.2
theorem catG_cons (x : Gp) (l : List Gp) : catG (x :: l) = x.1 ++ (x.2 ++ catG l) := by unfold catG; simp
theorem catG_end {l : List Gp} {M : List UInt8} (h : ∀ x ∈ l, okG x) (hM : endB M) : endB (catG l ++ M) := by
  cases l with
  | nil => exact hM
  | cons x r =>
    obtain ⟨h1, h2, h3⟩ := h x (by simp)
    obtain ⟨g, p⟩ := x
    cases g with
    | nil => exact absurd rfl h1
    | cons b g => exact .inr ⟨b, _, by rw [catG_cons]; simp only [List.cons_append]; rfl, h2 b (by simp)⟩
theorem pNames_cat {S : List UInt8} {k : Nat} : ∀ {l : List Gp} {M : List UInt8}, (∀ x ∈ l, okG x ∧ nameL x.2 = true) → endB M → pNames S (l.length + k) (catG l ++ M) = preN (l.map (·.2)) (pNames S k M)
  | [], M, _, _ => by
    rw [List.length_nil, Nat.zero_add]
    show pNames S k M = _
    cases pNames S k M <;> rfl
  | x :: r, M, h, hM => by
    have hx := h x (by simp)
    have he := catG_end (l := r) (fun y hy => (h y (by simp [hy])).1) hM
    have hs := seg_wrd hx.1.2.1 hx.1.2.2 he
    have ih := pNames_cat (S := S) (k := k) (l := r) (fun y hy => h y (by simp [hy])) hM
    rw [catG_cons, List.append_assoc, List.append_assoc, List.length_cons, show r.length + 1 + k = (r.length + k) + 1 by omega, pNames, hs.1, hs.2, if_pos hx.2, ih]
    cases pNames S k M <;> rfl
theorem pNums_cat {S : List UInt8} {k : Nat} : ∀ {l : List (List UInt8 × Int)} {M : List UInt8}, (∀ x ∈ l, x.1 ≠ [] ∧ blk x.1 ∧ fits x.2) → endB M →
    pNums S (l.length + k) (catG (l.map fun x => (x.1, tOf x.2)) ++ M) = preN (l.map (·.2)) (pNums S k M)
  | [], M, _, _ => by
    rw [List.length_nil, Nat.zero_add]
    show pNums S k M = _
    cases pNums S k M <;> rfl
  | x :: r, M, h, hM => by
    have hx := h x (by simp)
    have he := catG_end (l := r.map fun x => (x.1, tOf x.2)) (fun y hy => by
      obtain ⟨z, hz, rfl⟩ := List.mem_map.1 hy
      have := h z (by simp [hz])
      exact ⟨this.1, this.2.1, text_nb _⟩) hM
    have hs := seg_wrd hx.2.1 (text_nb x.2) he
    have ih := pNums_cat (S := S) (k := k) (l := r) (fun y hy => h y (by simp [hy])) hM
    have e1 : pC (bA (tOf x.2)) = 0 := sOf_pC x.2 hx.2.2
    have e2 : pV (bA (tOf x.2)) = x.2 := sOf_pV x.2 hx.2.2
    rw [List.map_cons, catG_cons, List.append_assoc, List.append_assoc, List.length_cons, show r.length + 1 + k = (r.length + k) + 1 by omega, pNums, hs.1, hs.2, if_pos e1, ih, e2]
    cases pNums S k M <;> rfl
/-- A whole line. -/
theorem parse_cat {g w : List UInt8} {ns : List Gp} {ms : List (List UInt8 × Int)} {M : List UInt8} {r : Bool} (hg : blk g) (ha : asks w = some (ns.length, ms.length, r))
    (hn : ∀ x ∈ ns, okG x ∧ nameL x.2 = true) (hm : ∀ x ∈ ms, x.1 ≠ [] ∧ blk x.1 ∧ fits x.2) (hM : endB M) (hr : r = true ∨ skp M = [])
    (hS : (g ++ (w ++ (catG ns ++ (catG (ms.map fun x => (x.1, tOf x.2)) ++ M)))).length ≤ 20000) :
    parseC (g ++ (w ++ (catG ns ++ (catG (ms.map fun x => (x.1, tOf x.2)) ++ M)))) = .ok ⟨w, ns.map (·.2), ms.map (·.2), skp M⟩ := by
  have hw := word_nb ha
  have e2 : endB (catG (ms.map fun x => (x.1, tOf x.2)) ++ M) := catG_end (fun y hy => by
      obtain ⟨z, hz, rfl⟩ := List.mem_map.1 hy
      have := hm z hz
      exact ⟨this.1, this.2.1, text_nb _⟩) hM
  have e1 := catG_end (l := ns) (fun y hy => (hn y hy).1) e2
  have hs := seg_wrd hg hw e1
  unfold parseC
  rw [if_neg (by omega), hs.1, hs.2, if_neg hw.1, ha]
  simp only
  unfold pAll
  have p1 := pNames_cat (S := g ++ (w ++ (catG ns ++ (catG (ms.map fun x => (x.1, tOf x.2)) ++ M)))) (k := 0) hn e2
  have p2 := pNums_cat (S := g ++ (w ++ (catG ns ++ (catG (ms.map fun x => (x.1, tOf x.2)) ++ M)))) (k := 0) hm hM
  rw [Nat.add_zero] at p1 p2
  rw [p1]
  simp only [pNames, preN, List.append_nil]
  rw [p2]
  simp only [pNums, preN, List.append_nil]
  unfold pRest
  rw [if_neg (fun h => by
    rcases hr with hr | hr
    · rw [hr] at h; cases h.1
    · exact h.2 hr)]
end Go.Proofs.YtegehnojbfedlaaDoor

end
section
/-
  Chapter 25: the law Lines.
-/
open Go Go.Proofs Go.Pw Go.RowKit
namespace Go.Proofs.YtegehnojbfedlaaDoor
set_option maxRecDepth 4000
set_option linter.unusedVariables false
set_option linter.unusedSimpArgs false
def smB (l : List UInt8) : Bool := decide (l.length ≤ 60)
def smallC (c : Cm) : Bool := c.names.all smB && decide (c.word.length ≤ 60) && decide (c.names.length ≤ 5) && decide (c.nums.length ≤ 5) && decide (c.rest.length ≤ 500)
theorem all_getP {p : List UInt8 → Bool} {l : List (List UInt8)} (h : ∀ j, j < l.length → p (l.getD j []) = true) : l.all p = true := by
  rw [List.all_eq_true]
  intro x hx
  obtain ⟨j, hj, rfl⟩ := List.mem_iff_getElem.1 hx
  have := h j hj
  rw [List.getD_eq_getElem?_getD, List.getElem?_eq_getElem hj] at this
  exact this
theorem all_noP {p : List UInt8 → Bool} {l : List (List UInt8)} {j : Nat} (hj : j < l.length) (h : p (l.getD j []) = false) : l.all p = false := by
  apply Bool.eq_false_iff.2
  intro k
  rw [List.all_eq_true] at k
  have := k (l.getD j []) (by rw [List.getD_eq_getElem?_getD, List.getElem?_eq_getElem hj]; exact List.getElem_mem hj)
  rw [h] at this
  cases this
set_option maxHeartbeats 4000000 in
theorem small_ok (c : Cm) (h1 : c.names.length ≤ 9223372036854775807) (h2 : c.nums.length ≤ 9223372036854775807) : Ok Tryd.prog 10 [cmP c] (vB (smallC c)) := by
  obtain ⟨w, ns, ms, rt⟩ := c
  simp only at h1 h2
  unfold cmP smallC
  simp only
  obtain ⟨al, hal⟩ : ∃ al, ns.all smB = al := ⟨_, rfl⟩
  rw [hal]
  refine Ok.of_pwp (by kernel_rfl) Tryd.func10 rfl (by kernel_rfl) (by kernel_rfl) ?_
  simp (implicitDefEqProofs := false) (disch := omega) only [go_sem, simprocAttr, go_sem, Nat.le_refl, Int.toNat_natCast, Int.toNat_zero, Int.toNat_one, str_eq, sz_bA, tl_bA, encI_len, ↓ix_enc, decide_true, Tryd.results10]
  refine p_loop (ι := { i : Nat // i ≤ ns.length ∧ ∀ j, j < i → smB (ns.getD j []) = true })
    (fun p => ⟨[(8, vI p.1), (7, vI ns.length), (6, .sl (encB ns)), (1, .ptr 0 0)], [(0, .box 25 [vS (bA w), .sl (encB ns), .sl (encI ms), vS (bA rt)])], [], 1, 0⟩) (fun p => ns.length - p.1) ⟨0, Nat.zero_le _, fun j h => by omega⟩ ?_ ?_
  · refine ⟨?_, ?_, ?_, ?_, ?_, ?_, ?_⟩ <;> simp only [go_sem, simprocAttr, decide_eq_true_eq, Int.natCast_zero] <;> try first | omega | ((repeat' (first | exact And.intro rfl (by omega) | (refine And.intro ?_ ?_))) <;> first | rfl | omega | (congr 3; omega) | (congr 2; omega))
  · rintro ⟨i, k1, k2⟩
    simp only
    by_cases hi : i < ns.length
    · by_cases hw : (ns.getD i []).length ≤ 60
      · simp (implicitDefEqProofs := false) (disch := omega) only [go_sem, simprocAttr, go_sem, Nat.le_refl, Int.toNat_natCast, Int.toNat_zero, Int.toNat_one, str_eq, sz_bA, tl_bA, encI_len, ↓ix_enc, decide_true, Tryd.results10]
        refine ⟨⟨i + 1, by omega, fun j hj => by
          by_cases e : j = i
          · subst e; exact decide_eq_true hw
          · exact k2 j (by omega)⟩, by simp only; omega, ?_⟩
        refine ⟨?_, ?_, ?_, ?_, ?_, ?_, ?_⟩ <;> simp only [go_sem, simprocAttr, decide_eq_true_eq, Int.natCast_add, Int.natCast_one] <;> try first | omega | ((repeat' (first | exact And.intro rfl (by omega) | (refine And.intro ?_ ?_))) <;> first | rfl | omega | (congr 3; omega) | (congr 2; omega))
      · have e : al = false := by rw [← hal]; exact all_noP hi (decide_eq_false hw)
        rw [e]
        simp only [Bool.false_and]
        simp (implicitDefEqProofs := false) (disch := omega) only [go_sem, simprocAttr, go_sem, Nat.le_refl, Int.toNat_natCast, Int.toNat_zero, Int.toNat_one, str_eq, sz_bA, tl_bA, encI_len, ↓ix_enc, decide_true, Tryd.results10]
    · have e : al = true := by rw [← hal]; exact all_getP (fun j hj => k2 j (by omega))
      rw [e]
      simp only [Bool.true_and]
      by_cases g1 : w.length ≤ 60
      · by_cases g2 : ns.length ≤ 5
        · by_cases g3 : ms.length ≤ 5
          · rw [decide_eq_true g1, decide_eq_true g2, decide_eq_true g3]
            simp only [Bool.true_and]
            by_cases g4 : rt.length ≤ 500
            · rw [decide_eq_true g4]
              simp (implicitDefEqProofs := false) (disch := omega) only [go_sem, simprocAttr, go_sem, Nat.le_refl, Int.toNat_natCast, Int.toNat_zero, Int.toNat_one, str_eq, sz_bA, tl_bA, encI_len, ↓ix_enc, decide_true, Tryd.results10]
              (first | done | omega | exact dT (by omega) | exact dF (by omega))
            · rw [decide_eq_false g4]
              simp (implicitDefEqProofs := false) (disch := omega) only [go_sem, simprocAttr, go_sem, Nat.le_refl, Int.toNat_natCast, Int.toNat_zero, Int.toNat_one, str_eq, sz_bA, tl_bA, encI_len, ↓ix_enc, decide_true, Tryd.results10]
              (first | done | omega | exact dT (by omega) | exact dF (by omega))
          · rw [decide_eq_true g1, decide_eq_true g2, decide_eq_false g3]
            simp only [Bool.true_and, Bool.false_and]
            simp (implicitDefEqProofs := false) (disch := omega) only [go_sem, simprocAttr, go_sem, Nat.le_refl, Int.toNat_natCast, Int.toNat_zero, Int.toNat_one, str_eq, sz_bA, tl_bA, encI_len, ↓ix_enc, decide_true, Tryd.results10]
            try (first | done | omega | exact dT (by omega) | exact dF (by omega))
        · rw [decide_eq_true g1, decide_eq_false g2]
          simp only [Bool.true_and, Bool.false_and]
          simp (implicitDefEqProofs := false) (disch := omega) only [go_sem, simprocAttr, go_sem, Nat.le_refl, Int.toNat_natCast, Int.toNat_zero, Int.toNat_one, str_eq, sz_bA, tl_bA, encI_len, ↓ix_enc, decide_true, Tryd.results10]
          try (first | done | omega | exact dT (by omega) | exact dF (by omega))
      · rw [decide_eq_false g1]
        simp only [Bool.false_and]
        simp (implicitDefEqProofs := false) (disch := omega) only [go_sem, simprocAttr, go_sem, Nat.le_refl, Int.toNat_natCast, Int.toNat_zero, Int.toNat_one, str_eq, sz_bA, tl_bA, encI_len, ↓ix_enc, decide_true, Tryd.results10]
        try (first | done | omega | exact dT (by omega) | exact dF (by omega))
set_option maxHeartbeats 4000000 in
theorem real_ok (c : Cm) (h1 : c.names.length ≤ 1000000) (h2 : c.nums.length ≤ 1000000) : Ok Tryd.prog 23 [cmP c] (cmP c) := by
  obtain ⟨w, ns, ms, rt⟩ := c
  simp only at h1 h2
  unfold cmP
  simp only
  refine Ok.of_pwp (by kernel_rfl) Tryd.func23 rfl (by kernel_rfl) (by kernel_rfl) ?_
  cases ns with
  | nil =>
    rw [encB_nil]
    cases ms with
    | nil =>
      rw [encI_nil]
      simp (implicitDefEqProofs := false) (disch := omega) only [go_sem, simprocAttr, go_sem, Nat.le_refl, Int.toNat_natCast, Int.toNat_zero, Int.toNat_one, str_eq, sz_bA, tl_bA, encI_len, ↓ix_enc, decide_true, Tryd.results23, Delta.val, sliceLike, fz_encI, encI_all', List.forall_mem_cons, List.length_nil, Nat.zero_add, List.nil_append]
    | cons m0 mr =>
      rw [show encI (m0 :: mr) = [vI m0] :: encI mr from rfl]
      simp only [List.length_cons] at h2
      simp (implicitDefEqProofs := false) (disch := omega) only [go_sem, simprocAttr, go_sem, Nat.le_refl, Int.toNat_natCast, Int.toNat_zero, Int.toNat_one, str_eq, sz_bA, tl_bA, encI_len, ↓ix_enc, decide_true, Tryd.results23, Delta.val, sliceLike, fz_encI, encI_all', List.forall_mem_cons, List.length_nil, Nat.zero_add, List.nil_append]
  | cons n0 nr =>
    rw [encB_cons]
    simp only [List.length_cons] at h1
    cases ms with
    | nil =>
      rw [encI_nil]
      simp (implicitDefEqProofs := false) (disch := omega) only [go_sem, simprocAttr, go_sem, Nat.le_refl, Int.toNat_natCast, Int.toNat_zero, Int.toNat_one, str_eq, sz_bA, tl_bA, encI_len, ↓ix_enc, decide_true, Tryd.results23, Delta.val, sliceLike, fz_encI, encI_all', List.forall_mem_cons, List.length_nil, Nat.zero_add, List.nil_append]
    | cons m0 mr =>
      rw [show encI (m0 :: mr) = [vI m0] :: encI mr from rfl]
      simp only [List.length_cons] at h2
      simp (implicitDefEqProofs := false) (disch := omega) only [go_sem, simprocAttr, go_sem, Nat.le_refl, Int.toNat_natCast, Int.toNat_zero, Int.toNat_one, str_eq, sz_bA, tl_bA, encI_len, ↓ix_enc, decide_true, Tryd.results23, Delta.val, sliceLike, fz_encI, encI_all', List.forall_mem_cons, List.length_nil, Nat.zero_add, List.nil_append]
      omega
theorem smallC_iff (c : Cm) : smallC c = true ↔ (∀ s ∈ c.names, s.length ≤ 60) ∧ c.word.length ≤ 60 ∧ c.names.length ≤ 5 ∧ c.nums.length ≤ 5 ∧ c.rest.length ≤ 500 := by
  unfold smallC smB
  simp only [Bool.and_eq_true, decide_eq_true_eq, List.all_eq_true, and_assoc]
theorem jT_bound {K : Nat} : ∀ {l : List (List UInt8)}, (∀ x ∈ l, x.length ≤ K) → (jT l).length ≤ l.length * (K + 1)
  | [], _ => by rw [jT_nil]; exact Nat.zero_le _
  | x :: r, h => by
    have h1 := h x (by simp)
    have ih := jT_bound (l := r) (fun y hy => h y (by simp [hy]))
    rw [jT_cons, List.length_append, List.length_cons, List.length_cons, Nat.succ_mul]
    omega
theorem restC_cases (c : Cm) : restC c = [] ∨ restC c = [c.rest] := by
  unfold restC
  split
  · exact .inr rfl
  · exact .inl rfl
theorem line_len {c : Cm} (h : smallC c = true) (hf : ∀ n ∈ c.nums, fits n) : (lineC c).length ≤ 1000 := by
  obtain ⟨g1, g2, g3, g4, g5⟩ := (smallC_iff c).1 h
  have b1 := jT_bound (K := 60) g1
  have b2 := jT_bound (K := 21) (l := c.nums.map tOf) (fun x hx => by
    obtain ⟨n, hn, rfl⟩ := List.mem_map.1 hx
    exact tOf_len n (hf n hn))
  have b3 : (jT (restC c)).length ≤ 501 := by
    rcases restC_cases c with e | e
    · rw [e, jT_nil]; decide
    · rw [e, jT_cons, jT_nil, List.append_nil, List.length_cons]; omega
  unfold lineC
  rw [jT_app, jT_app, List.length_append, List.length_append, List.length_append]
  rw [List.length_map] at b2
  have m1 := Nat.mul_le_mul_right 61 g3
  have m2 := Nat.mul_le_mul_right 22 g4
  omega
theorem jT_cat (l : List (List UInt8)) : jT l = catG (l.map fun x => ([32], x)) := by
  induction l with
  | nil => rfl
  | cons x r ih => rw [jT_cons, ih, List.map_cons, catG_cons]; rfl
theorem blk_sp : blk [32] := fun b hb => by
  rw [List.mem_singleton] at hb
  subst hb; decide
theorem goodC_iff {c : Cm} (h : goodC c = true) : ∃ r, asks c.word = some (c.names.length, c.nums.length, r) ∧ (r = true ∨ c.rest = []) ∧ skp c.rest = c.rest ∧ ∀ x ∈ c.names, nameL x = true := by
  unfold goodC at h
  split at h
  · cases h
  · rename_i a b r ha
    simp only [Bool.and_eq_true, decide_eq_true_eq, Bool.or_eq_true, List.all_eq_true] at h
    obtain ⟨⟨⟨⟨h1, h2⟩, h3⟩, h4⟩, h5⟩ := h
    exact ⟨r, by rw [ha, h1, h2], h3, h4, h5⟩
theorem parse_line {c : Cm} (h : goodC c = true) (hf : ∀ n ∈ c.nums, fits n) (hl : (lineC c).length ≤ 20000) : parseC (lineC c) = .ok c := by
  obtain ⟨w, ns, ms, rt⟩ := c
  obtain ⟨r, ha, hr, hs, hn⟩ := goodC_iff h
  simp only at ha hr hs hn hf
  have e : lineC ⟨w, ns, ms, rt⟩ = [] ++ (w ++ (catG (ns.map fun x => ([32], x)) ++ (catG ((ms.map fun x => (([32] : List UInt8), x)).map fun x => (x.1, tOf x.2)) ++ jT (restC ⟨w, ns, ms, rt⟩)))) := by
    unfold lineC
    rw [jT_app, jT_app, jT_cat ns, jT_cat (ms.map tOf), List.map_map, List.map_map, List.append_assoc]
    rfl
  have hM : endB (jT (restC ⟨w, ns, ms, rt⟩)) ∧ skp (jT (restC ⟨w, ns, ms, rt⟩)) = rt := by
    unfold restC
    simp only
    rw [ha]
    cases r with
    | true =>
      refine ⟨.inr ⟨32, rt, by simp [jT_cons, jT_nil], by decide⟩, ?_⟩
      simp only [jT_cons, jT_nil, List.append_nil]
      have := skp_blk rt blk_sp
      rw [List.singleton_append] at this
      rw [this, hs]
    | false =>
      have : rt = [] := by rcases hr with h | h; cases h; exact h
      subst this
      exact ⟨.inl rfl, rfl⟩
  rw [e] at hl ⊢
  rw [parse_cat (r := r) (fun b hb => by cases hb) (by rw [List.length_map, List.length_map]; exact ha) (fun x hx => by
      obtain ⟨y, hy, rfl⟩ := List.mem_map.1 hx
      exact ⟨⟨by simp, blk_sp, name_nb (hn y hy)⟩, hn y hy⟩) (fun x hx => by
      obtain ⟨y, hy, rfl⟩ := List.mem_map.1 hx
      exact ⟨by simp, blk_sp, hf y hy⟩) hM.1 (by
      rcases hr with h | h
      · exact .inl h
      · rw [hM.2]; exact .inr h) hl, hM.2, List.map_map, List.map_map]
  simp [Function.comp_def]
theorem lines_ok (c : Cm) (h1 : c.names.length ≤ 9223372036854775807) (h2 : c.nums.length ≤ 9223372036854775807) (hf : ∀ n ∈ c.nums, fits n) : Ok Tryd.prog 8 [cmP c] (vB true) := by
  have c0 := awake_ok
  have c1 := small_ok c h1 h2
  have hcm : ∃ l, cmP c = .agg l := ⟨_, rfl⟩
  cases hs : smallC c with
  | false =>
    rw [hs] at c1
    unfold cmP at *
    refine Ok.of_pwp (by kernel_rfl) Tryd.func8 rfl (by kernel_rfl) (by kernel_rfl) ?_
    simp (implicitDefEqProofs := false) (disch := omega) only [go_sem, simprocAttr, go_sem, Nat.le_refl, Int.toNat_natCast, Int.toNat_zero, Int.toNat_one, str_eq, sz_bA, tl_bA, encI_len, ↓ix_enc, decide_true, Tryd.results8, beq_self_eq_true, Bool.not_true, Bool.not_false]
    with_reducible refine CallOk.of c0 rfl ?_
    simp (implicitDefEqProofs := false) (disch := omega) only [go_sem, simprocAttr, go_sem, Nat.le_refl, Int.toNat_natCast, Int.toNat_zero, Int.toNat_one, str_eq, sz_bA, tl_bA, encI_len, ↓ix_enc, decide_true, Tryd.results8, beq_self_eq_true, Bool.not_true, Bool.not_false]
    with_reducible refine CallOk.of c1 rfl ?_
    simp (implicitDefEqProofs := false) (disch := omega) only [go_sem, simprocAttr, go_sem, Nat.le_refl, Int.toNat_natCast, Int.toNat_zero, Int.toNat_one, str_eq, sz_bA, tl_bA, encI_len, ↓ix_enc, decide_true, Tryd.results8, beq_self_eq_true, Bool.not_true, Bool.not_false]
    with_reducible refine CallOk.of c0 rfl ?_
    simp (implicitDefEqProofs := false) (disch := omega) only [go_sem, simprocAttr, go_sem, Nat.le_refl, Int.toNat_natCast, Int.toNat_zero, Int.toNat_one, str_eq, sz_bA, tl_bA, encI_len, ↓ix_enc, decide_true, Tryd.results8, beq_self_eq_true, Bool.not_true, Bool.not_false]
  | true =>
    rw [hs] at c1
    obtain ⟨g1, g2, g3, g4, g5⟩ := (smallC_iff c).1 hs
    have hfw : fewB c.names := fun s h => by have := g1 s h; omega
    have c2 := real_ok c (by omega) (by omega)
    have c3 := good_ok c (by omega) (by omega) hfw
    have c4 := rgood_ok c (by omega) (by omega) (by omega) hfw
    cases hg : goodC c with
    | false =>
      rw [hg] at c3 c4
      unfold cmP at *
      refine Ok.of_pwp (by kernel_rfl) Tryd.func8 rfl (by kernel_rfl) (by kernel_rfl) ?_
      simp (implicitDefEqProofs := false) (disch := omega) only [go_sem, simprocAttr, go_sem, Nat.le_refl, Int.toNat_natCast, Int.toNat_zero, Int.toNat_one, str_eq, sz_bA, tl_bA, encI_len, ↓ix_enc, decide_true, Tryd.results8, beq_self_eq_true, Bool.not_true, Bool.not_false]
      with_reducible refine CallOk.of c0 rfl ?_
      simp (implicitDefEqProofs := false) (disch := omega) only [go_sem, simprocAttr, go_sem, Nat.le_refl, Int.toNat_natCast, Int.toNat_zero, Int.toNat_one, str_eq, sz_bA, tl_bA, encI_len, ↓ix_enc, decide_true, Tryd.results8, beq_self_eq_true, Bool.not_true, Bool.not_false]
      with_reducible refine CallOk.of c1 rfl ?_
      simp (implicitDefEqProofs := false) (disch := omega) only [go_sem, simprocAttr, go_sem, Nat.le_refl, Int.toNat_natCast, Int.toNat_zero, Int.toNat_one, str_eq, sz_bA, tl_bA, encI_len, ↓ix_enc, decide_true, Tryd.results8, beq_self_eq_true, Bool.not_true, Bool.not_false]
      with_reducible refine CallOk.of c2 rfl ?_
      simp (implicitDefEqProofs := false) (disch := omega) only [go_sem, simprocAttr, go_sem, Nat.le_refl, Int.toNat_natCast, Int.toNat_zero, Int.toNat_one, str_eq, sz_bA, tl_bA, encI_len, ↓ix_enc, decide_true, Tryd.results8, beq_self_eq_true, Bool.not_true, Bool.not_false]
      with_reducible refine CallOk.of c3 rfl ?_
      simp (implicitDefEqProofs := false) (disch := omega) only [go_sem, simprocAttr, go_sem, Nat.le_refl, Int.toNat_natCast, Int.toNat_zero, Int.toNat_one, str_eq, sz_bA, tl_bA, encI_len, ↓ix_enc, decide_true, Tryd.results8, beq_self_eq_true, Bool.not_true, Bool.not_false]
      with_reducible refine CallOk.of c4 rfl ?_
      simp (implicitDefEqProofs := false) (disch := omega) only [go_sem, simprocAttr, go_sem, Nat.le_refl, Int.toNat_natCast, Int.toNat_zero, Int.toNat_one, str_eq, sz_bA, tl_bA, encI_len, ↓ix_enc, decide_true, Tryd.results8, beq_self_eq_true, Bool.not_true, Bool.not_false]
      with_reducible refine CallOk.of c4 rfl ?_
      simp (implicitDefEqProofs := false) (disch := omega) only [go_sem, simprocAttr, go_sem, Nat.le_refl, Int.toNat_natCast, Int.toNat_zero, Int.toNat_one, str_eq, sz_bA, tl_bA, encI_len, ↓ix_enc, decide_true, Tryd.results8, beq_self_eq_true, Bool.not_true, Bool.not_false]
    | true =>
      rw [hg] at c3 c4
      have hl := line_len hs hf
      have c5 := line_ok c (by omega) (by omega) hf (by omega)
      have c6 := rline_ok c (by omega) (by omega) hf (by omega)
      have c7 := parse_cmd (lineC c) (by omega)
      rw [parse_line hg hf (by omega)] at c7
      have c8 := conv_ok c
      have c9 := same_self c (by omega) (by omega)
      unfold resP at c7
      unfold cmP at *
      refine Ok.of_pwp (by kernel_rfl) Tryd.func8 rfl (by kernel_rfl) (by kernel_rfl) ?_
      simp (implicitDefEqProofs := false) (disch := omega) only [go_sem, simprocAttr, go_sem, Nat.le_refl, Int.toNat_natCast, Int.toNat_zero, Int.toNat_one, str_eq, sz_bA, tl_bA, encI_len, ↓ix_enc, decide_true, Tryd.results8, beq_self_eq_true, Bool.not_true, Bool.not_false]
      with_reducible refine CallOk.of c0 rfl ?_
      simp (implicitDefEqProofs := false) (disch := omega) only [go_sem, simprocAttr, go_sem, Nat.le_refl, Int.toNat_natCast, Int.toNat_zero, Int.toNat_one, str_eq, sz_bA, tl_bA, encI_len, ↓ix_enc, decide_true, Tryd.results8, beq_self_eq_true, Bool.not_true, Bool.not_false]
      with_reducible refine CallOk.of c1 rfl ?_
      simp (implicitDefEqProofs := false) (disch := omega) only [go_sem, simprocAttr, go_sem, Nat.le_refl, Int.toNat_natCast, Int.toNat_zero, Int.toNat_one, str_eq, sz_bA, tl_bA, encI_len, ↓ix_enc, decide_true, Tryd.results8, beq_self_eq_true, Bool.not_true, Bool.not_false]
      with_reducible refine CallOk.of c2 rfl ?_
      simp (implicitDefEqProofs := false) (disch := omega) only [go_sem, simprocAttr, go_sem, Nat.le_refl, Int.toNat_natCast, Int.toNat_zero, Int.toNat_one, str_eq, sz_bA, tl_bA, encI_len, ↓ix_enc, decide_true, Tryd.results8, beq_self_eq_true, Bool.not_true, Bool.not_false]
      with_reducible refine CallOk.of c3 rfl ?_
      simp (implicitDefEqProofs := false) (disch := omega) only [go_sem, simprocAttr, go_sem, Nat.le_refl, Int.toNat_natCast, Int.toNat_zero, Int.toNat_one, str_eq, sz_bA, tl_bA, encI_len, ↓ix_enc, decide_true, Tryd.results8, beq_self_eq_true, Bool.not_true, Bool.not_false]
      with_reducible refine CallOk.of c4 rfl ?_
      simp (implicitDefEqProofs := false) (disch := omega) only [go_sem, simprocAttr, go_sem, Nat.le_refl, Int.toNat_natCast, Int.toNat_zero, Int.toNat_one, str_eq, sz_bA, tl_bA, encI_len, ↓ix_enc, decide_true, Tryd.results8, beq_self_eq_true, Bool.not_true, Bool.not_false]
      with_reducible refine CallOk.of c4 rfl ?_
      simp (implicitDefEqProofs := false) (disch := omega) only [go_sem, simprocAttr, go_sem, Nat.le_refl, Int.toNat_natCast, Int.toNat_zero, Int.toNat_one, str_eq, sz_bA, tl_bA, encI_len, ↓ix_enc, decide_true, Tryd.results8, beq_self_eq_true, Bool.not_true, Bool.not_false]
      with_reducible refine CallOk.of c5 rfl ?_
      simp (implicitDefEqProofs := false) (disch := omega) only [go_sem, simprocAttr, go_sem, Nat.le_refl, Int.toNat_natCast, Int.toNat_zero, Int.toNat_one, str_eq, sz_bA, tl_bA, encI_len, ↓ix_enc, decide_true, Tryd.results8, beq_self_eq_true, Bool.not_true, Bool.not_false]
      with_reducible refine CallOk.of c7 rfl ?_
      simp (implicitDefEqProofs := false) (disch := omega) only [go_sem, simprocAttr, go_sem, Nat.le_refl, Int.toNat_natCast, Int.toNat_zero, Int.toNat_one, str_eq, sz_bA, tl_bA, encI_len, ↓ix_enc, decide_true, Tryd.results8, beq_self_eq_true, Bool.not_true, Bool.not_false]
      with_reducible refine CallOk.of c6 rfl ?_
      simp (implicitDefEqProofs := false) (disch := omega) only [go_sem, simprocAttr, go_sem, Nat.le_refl, Int.toNat_natCast, Int.toNat_zero, Int.toNat_one, str_eq, sz_bA, tl_bA, encI_len, ↓ix_enc, decide_true, Tryd.results8, beq_self_eq_true, Bool.not_true, Bool.not_false]
      with_reducible refine CallOk.of c8 rfl ?_
      simp (implicitDefEqProofs := false) (disch := omega) only [go_sem, simprocAttr, go_sem, Nat.le_refl, Int.toNat_natCast, Int.toNat_zero, Int.toNat_one, str_eq, sz_bA, tl_bA, encI_len, ↓ix_enc, decide_true, Tryd.results8, beq_self_eq_true, Bool.not_true, Bool.not_false]
      with_reducible refine CallOk.of c9 rfl ?_
      simp (implicitDefEqProofs := false) (disch := omega) only [go_sem, simprocAttr, go_sem, Nat.le_refl, Int.toNat_natCast, Int.toNat_zero, Int.toNat_one, str_eq, sz_bA, tl_bA, encI_len, ↓ix_enc, decide_true, Tryd.results8, beq_self_eq_true, Bool.not_true, Bool.not_false]
end Go.Proofs.YtegehnojbfedlaaDoor

end
section
/-
  Chapter 25: how a command reads, as a law's argument; the law Lines as its row asks it.
-/
open Go Go.Proofs Go.Pw Go.RowKit
namespace Go.Proofs.YtegehnojbfedlaaDoor
set_option maxRecDepth 4000
set_option linter.unusedVariables false
set_option linter.unusedSimpArgs false
theorem wf_i64_ {n : Int} (h : (Lit.int .i64 n).wf = true) : fits n := by
  simp only [Lit.wf, Bool.and_eq_true, decide_eq_true_eq] at h
  exact h
def cellsC (c : Cm) : List PV := [vS (bA c.word), .sl (encB c.names), .sl (encI c.nums), vS (bA c.rest)]
def CmOk (c : Cm) : Prop := c.names.length ≤ 9223372036854775807 ∧ c.nums.length ≤ 9223372036854775807 ∧ ∀ n ∈ c.nums, fits n
section
variable {H : Type} {en : TypeId × Value → H} {w : World} {base : Nat} {spare : Nat → Bool} {held : Bool}
theorem rdTexts : Rd en Tryd.prog w base spare held 22 (fun l : List ByteArray => [.sl (l.map fun s => [vS s])]) (fun l => l.length ≤ maxLen ∧ ∀ s ∈ l, s.size ≤ maxLen) :=
  Rd.slice (sz := 1) Tryd.underlying22 (by kernel_rfl) (by decide) (fun _ => rfl) (Rd.string Tryd.underlying9)
theorem rdNums : Rd en Tryd.prog w base spare held 23 (fun l : List Int => [.sl (encI l)]) (fun l => l.length ≤ maxLen ∧ ∀ n ∈ l, (Lit.int .i64 n).wf = true) :=
  Rd.slice (sz := 1) Tryd.underlying23 (by kernel_rfl) (by decide) (fun _ => rfl) (Rd.int Tryd.underlying2)
theorem rdBytes : Rd en Tryd.prog w base spare held 26 (fun l : List Int => [.sl (encC l)]) (fun l => l.length ≤ maxLen ∧ ∀ n ∈ l, (Lit.int .u8 n).wf = true) :=
  Rd.slice (sz := 1) Tryd.underlying26 (by kernel_rfl) (by decide) (fun _ => rfl) (Rd.int Tryd.underlying5)
theorem rdC : Rd en Tryd.prog w base spare held 25 cellsC CmOk := by
  refine Rd.map (Rd.struct4 Tryd.underlying25 rfl (by kernel_rfl) rfl rfl rfl rfl (by kernel_rfl) (by kernel_rfl) (by kernel_rfl) (by kernel_rfl)
    (Rd.string Tryd.underlying9) rdTexts rdNums (Rd.string Tryd.underlying9))
    (fun a => ⟨a.1.data.toList, a.2.1.map (·.data.toList), a.2.2.1, a.2.2.2.data.toList⟩) (fun a => ?_) (fun a h => ⟨?_, h.2.2.1.1, fun n hn => wf_i64_ (h.2.2.1.2 n hn)⟩)
  · unfold cellsC encB
    simp only [List.map_map]
    rfl
  · rw [List.length_map]; exact h.2.1.1
end
theorem lines_law (c : Cm) (h : CmOk c) : Ok Tryd.prog 8 [.agg (cellsC c)] (vB true) := lines_ok c h.1 h.2.1 h.2.2
end Go.Proofs.YtegehnojbfedlaaDoor

end
section
/-
  Chapter 25: the law Words.
-/
open Go Go.Proofs Go.Pw Go.RowKit
namespace Go.Proofs.YtegehnojbfedlaaDoor
set_option maxRecDepth 4000
set_option linter.unusedVariables false
set_option linter.unusedSimpArgs false
/-- The words, rising. -/
def wl : List (List UInt8) := [[97, 108, 108], [99, 104, 101, 99, 107], [99, 111, 112, 121], [100, 114, 97, 119, 115], [100, 114, 111, 112], [101, 110, 117, 109], [102, 97, 105, 108, 115], [103, 101, 110, 101, 114, 97, 116, 101], [103, 101, 116], [105, 109, 112, 111, 114, 116], [108, 105, 110, 101, 115], [108, 105, 115, 116], [108, 111, 97, 100], [109, 117, 116, 97, 116, 101], [111, 114, 97, 99, 108, 101], [114, 101, 102, 108, 101, 99, 116], [114, 101, 110, 100, 101, 114], [114, 101, 112, 108, 97, 121], [115, 99, 114, 105, 112, 116], [115, 104, 111, 119], [115, 104, 114, 105, 110, 107]]
theorem wl_len : wl.length = 21 := rfl
theorem words_ok : Ok Tryd.prog 19 [] (.sl (encB wl)) := by
  refine Ok.of_pwp (by kernel_rfl) Tryd.func19 rfl (by kernel_rfl) (by kernel_rfl) ?_
  simp (implicitDefEqProofs := false) (disch := omega) only [go_sem, simprocAttr, go_sem, Nat.le_refl, Int.toNat_natCast, Int.toNat_zero, Int.toNat_one, str_eq, sz_bA, tl_bA, encI_len, ↓ix_enc, decide_true, beq_self_eq_true, Bool.not_true, Bool.not_false, Tryd.results19]
  rfl
theorem rwords_ok : Ok Tryd.prog 20 [] (.sl (encB wl)) := by
  refine Ok.of_pwp (by kernel_rfl) Tryd.func20 rfl (by kernel_rfl) (by kernel_rfl) ?_
  simp (implicitDefEqProofs := false) (disch := omega) only [go_sem, simprocAttr, go_sem, Nat.le_refl, Int.toNat_natCast, Int.toNat_zero, Int.toNat_one, str_eq, sz_bA, tl_bA, encI_len, ↓ix_enc, decide_true, beq_self_eq_true, Bool.not_true, Bool.not_false, Tryd.results20]
  rfl
theorem names_nil {S : List UInt8} {k : Nat} : pNames S (k + 1) [] = .error (S.length, 1) := rfl
theorem nums_nil {S : List UInt8} {k : Nat} : pNums S (k + 1) [] = .error (S.length, 1) := by
  have h : pC (bA (wrd [])) = 1 := pC_1 (by decide)
  rw [pNums, if_neg (by rw [h]; decide), h]
  rfl
/-- A word alone. -/
theorem parse_word {w : List UInt8} {a b : Nat} {r : Bool} (ha : asks w = some (a, b, r)) (hl : w.length ≤ 20000) :
    parseC w = if 0 < a + b then .error (w.length, 1) else .ok ⟨w, [], [], []⟩ := by
  have hw := word_nb ha
  have hs := seg_wrd (g := []) (p := w) (t := []) (fun b hb => by cases hb) hw (.inl rfl)
  rw [List.nil_append, List.append_nil] at hs
  unfold parseC
  rw [if_neg (by omega), hs.1, hs.2, if_neg hw.1, ha]
  simp only
  unfold pAll
  cases a with
  | succ a => rw [names_nil, if_pos (by omega)]
  | zero =>
    simp only [pNames]
    cases b with
    | succ b => rw [nums_nil, if_pos (by omega)]
    | zero =>
      simp only [pNums]
      unfold pRest
      rw [if_neg (fun h => h.2 rfl), if_neg (by omega)]
      rfl
theorem wl_asks : ∀ w ∈ wl, ∃ a b r, asks w = some (a, b, r) ∧ w.length ≤ 20 := by
  have : ∀ w ∈ wl, (asks w).isSome = true ∧ w.length ≤ 20 := by decide
  intro w hw
  obtain ⟨h, k⟩ := this w hw
  obtain ⟨⟨a, b, r⟩, hq⟩ := Option.isSome_iff_exists.1 h
  exact ⟨a, b, r, hq, k⟩
set_option maxHeartbeats 4000000 in
theorem words_law (n : Int) (h : 0 ≤ n ∧ n ≤ 255) : Ok Tryd.prog 6 [.val (.int .u8 n)] (vB true) := by
  have c0 := awake_ok
  have c1 := words_ok
  have c2 := rwords_ok
  obtain ⟨k, hk, hk2⟩ : ∃ k : Nat, n.tmod 21 = (k : Int) ∧ k < 21 := ⟨(n.tmod 21).toNat, by rw [Int.tmod_eq_emod_of_nonneg h.1]; omega, by rw [Int.tmod_eq_emod_of_nonneg h.1]; omega⟩
  have hmem : wl.getD k [] ∈ wl := by
    rw [List.getD_eq_getElem?_getD, List.getElem?_eq_getElem (by rw [wl_len]; exact hk2)]
    exact List.getElem_mem _
  obtain ⟨a, b, r, ha, hwl⟩ := wl_asks _ hmem
  have hlen := wl_len
  have hle := asks_le ha
  refine Ok.of_pwp (by kernel_rfl) Tryd.func6 rfl (by kernel_rfl) (by kernel_rfl) ?_
  simp (implicitDefEqProofs := false) (disch := omega) only [go_sem, simprocAttr, go_sem, Nat.le_refl, Int.toNat_natCast, Int.toNat_zero, Int.toNat_one, str_eq, sz_bA, tl_bA, encI_len, ↓ix_enc, decide_true, beq_self_eq_true, Bool.not_true, Bool.not_false, Tryd.results6, wl_len, Int.cast_ofNat_Int]
  with_reducible refine CallOk.of c0 rfl ?_
  simp (implicitDefEqProofs := false) (disch := omega) only [go_sem, simprocAttr, go_sem, Nat.le_refl, Int.toNat_natCast, Int.toNat_zero, Int.toNat_one, str_eq, sz_bA, tl_bA, encI_len, ↓ix_enc, decide_true, beq_self_eq_true, Bool.not_true, Bool.not_false, Tryd.results6, wl_len, Int.cast_ofNat_Int]
  with_reducible refine CallOk.of c1 rfl ?_
  simp (implicitDefEqProofs := false) (disch := omega) only [go_sem, simprocAttr, go_sem, Nat.le_refl, Int.toNat_natCast, Int.toNat_zero, Int.toNat_one, str_eq, sz_bA, tl_bA, encI_len, ↓ix_enc, decide_true, beq_self_eq_true, Bool.not_true, Bool.not_false, Tryd.results6, wl_len, Int.cast_ofNat_Int]
  with_reducible refine CallOk.of c2 rfl ?_
  simp (implicitDefEqProofs := false) (disch := omega) only [go_sem, simprocAttr, go_sem, Nat.le_refl, Int.toNat_natCast, Int.toNat_zero, Int.toNat_one, str_eq, sz_bA, tl_bA, encI_len, ↓ix_enc, decide_true, beq_self_eq_true, Bool.not_true, Bool.not_false, Tryd.results6, wl_len, Int.cast_ofNat_Int]
  refine p_loop (ι := { i : Nat // i ≤ 21 }) (fun p => ⟨[(24, vI p.1), (23, vI 21), (4, .sl (encB wl)), (3, .sl (encB wl)), (0, .val (.int .u8 n))], [], [], 0, 0⟩) (fun p => 21 - p.1) ⟨0, Nat.zero_le _⟩ ?_ ?_
  · refine ⟨?_, ?_, ?_, ?_, ?_, ?_, ?_⟩ <;> simp only [go_sem, simprocAttr, decide_eq_true_eq, Int.natCast_zero] <;> try first | omega | ((repeat' (first | exact And.intro rfl (by omega) | (refine And.intro ?_ ?_))) <;> first | rfl | omega | (congr 3; omega) | (congr 2; omega))
  · rintro ⟨i, hi⟩
    simp only
    by_cases hl : i < 21
    · have hlb : (i : Int) < (wl.length : Int) := by rw [wl_len]; omega
      simp (implicitDefEqProofs := false) (disch := omega) only [go_sem, simprocAttr, go_sem, Nat.le_refl, Int.toNat_natCast, Int.toNat_zero, Int.toNat_one, str_eq, sz_bA, tl_bA, encI_len, ↓ix_enc, decide_true, beq_self_eq_true, Bool.not_true, Bool.not_false, Tryd.results6, wl_len, Int.cast_ofNat_Int]
      refine ⟨⟨i + 1, hl⟩, by simp only; omega, ?_⟩
      refine ⟨?_, ?_, ?_, ?_, ?_, ?_, ?_⟩ <;> simp only [go_sem, simprocAttr, decide_eq_true_eq, Int.natCast_add, Int.natCast_one] <;> try first | omega | ((repeat' (first | exact And.intro rfl (by omega) | (refine And.intro ?_ ?_))) <;> first | rfl | omega | (congr 3; omega) | (congr 2; omega))
    · have c3 := asks_ok (wl.getD k [])
      have c4 := parse_cmd (wl.getD k []) (by omega)
      have hkb : (k : Int) < (wl.length : Int) := by rw [wl_len]; omega
      rw [ha] at c3
      unfold askP at c3
      rw [parse_word ha (by omega)] at c4
      simp only at c3
      by_cases hab : 0 < a + b
      · rw [if_pos hab] at c4
        unfold resP at c4
        simp only at c4
        simp (implicitDefEqProofs := false) (disch := omega) only [go_sem, simprocAttr, go_sem, Nat.le_refl, Int.toNat_natCast, Int.toNat_zero, Int.toNat_one, str_eq, sz_bA, tl_bA, encI_len, ↓ix_enc, decide_true, beq_self_eq_true, Bool.not_true, Bool.not_false, Tryd.results6, wl_len, Int.cast_ofNat_Int, hk]
        with_reducible refine CallOk.of c3 rfl ?_
        simp (implicitDefEqProofs := false) (disch := omega) only [go_sem, simprocAttr, go_sem, Nat.le_refl, Int.toNat_natCast, Int.toNat_zero, Int.toNat_one, str_eq, sz_bA, tl_bA, encI_len, ↓ix_enc, decide_true, beq_self_eq_true, Bool.not_true, Bool.not_false, Tryd.results6, wl_len, Int.cast_ofNat_Int, hk]
        with_reducible refine CallOk.of c4 rfl ?_
        simp (implicitDefEqProofs := false) (disch := omega) only [go_sem, simprocAttr, go_sem, Nat.le_refl, Int.toNat_natCast, Int.toNat_zero, Int.toNat_one, str_eq, sz_bA, tl_bA, encI_len, ↓ix_enc, decide_true, beq_self_eq_true, Bool.not_true, Bool.not_false, Tryd.results6, wl_len, Int.cast_ofNat_Int, hk]
        first | done | rfl
      · rw [if_neg hab] at c4
        unfold resP cmP at c4
        simp only at c4
        simp (implicitDefEqProofs := false) (disch := omega) only [go_sem, simprocAttr, go_sem, Nat.le_refl, Int.toNat_natCast, Int.toNat_zero, Int.toNat_one, str_eq, sz_bA, tl_bA, encI_len, ↓ix_enc, decide_true, beq_self_eq_true, Bool.not_true, Bool.not_false, Tryd.results6, wl_len, Int.cast_ofNat_Int, hk]
        with_reducible refine CallOk.of c3 rfl ?_
        simp (implicitDefEqProofs := false) (disch := omega) only [go_sem, simprocAttr, go_sem, Nat.le_refl, Int.toNat_natCast, Int.toNat_zero, Int.toNat_one, str_eq, sz_bA, tl_bA, encI_len, ↓ix_enc, decide_true, beq_self_eq_true, Bool.not_true, Bool.not_false, Tryd.results6, wl_len, Int.cast_ofNat_Int, hk]
        with_reducible refine CallOk.of c4 rfl ?_
        simp (implicitDefEqProofs := false) (disch := omega) only [go_sem, simprocAttr, go_sem, Nat.le_refl, Int.toNat_natCast, Int.toNat_zero, Int.toNat_one, str_eq, sz_bA, tl_bA, encI_len, ↓ix_enc, decide_true, beq_self_eq_true, Bool.not_true, Bool.not_false, Tryd.results6, wl_len, Int.cast_ofNat_Int, hk]
        first | done | rfl
end Go.Proofs.YtegehnojbfedlaaDoor

end
