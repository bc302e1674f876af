/-
  Contracts and plain laws on the way to the statement; each says its own conditions.
-/
import Derived.Test.YtahgjolokkfhjaaDoorGP15
import Derived.Test.YtahgjolokkfhjaaDoorGP21
import Derived.Test.YtahgjolokkfhjaaDoorGP11
import Derived.Test.YtahgjolokkfhjaaDoorGP20
import Derived.Test.YtahgjolokkfhjaaDoorGP10
section
/-
  The law of makers.
-/
open Go Go.Proofs Go.Pw Go.RowKit
namespace Go.Proofs.YtahgjolokkfhjaaDoor
set_option maxRecDepth 4000
set_option linter.unusedVariables false
set_option linter.unusedSimpArgs false
theorem list_ok (l : List V) (hl : l.length ≤ 1000000) : Ok Tryd.prog 31 [.sl (encV l)] (.agg (cellsV (.mk 4 false 0 ByteArray.empty l []))) := by
  have c := cloneV_ok l hl
  refine Ok.of_pwp (by kernel_rfl) Tryd.func31 rfl (by kernel_rfl) (by kernel_rfl) ?_
  simp (implicitDefEqProofs := false) (disch := omega) only [go_sem, simprocAttr, go_sem, Nat.le_refl, cellsV, encV_nil, encT_nil, Tryd.results31]
  with_reducible refine CallOk.of c rfl ?_
  simp (implicitDefEqProofs := false) (disch := omega) only [go_sem, simprocAttr, go_sem, Nat.le_refl, cellsV, encV_nil, encT_nil, Tryd.results31]
end Go.Proofs.YtahgjolokkfhjaaDoor

end
section
/-
  Chapter 4: the fixed example; the law Gets.
-/
open Go Go.Proofs Go.Pw Go.RowKit
namespace Go.Proofs.YtahgjolokkfhjaaDoor
set_option maxRecDepth 4000
set_option linter.unusedVariables false
set_option linter.unusedSimpArgs false
abbrev nV_ (n : Int) : V := .mk 2 false n ByteArray.empty [] []
abbrev lst_ : V := .mk 4 false 0 ByteArray.empty [nV_ 5, nV_ 6] []
abbrev obj_ : V := .mk 5 false 0 ByteArray.empty [lst_] [⟨#[97]⟩]
theorem sOf_1 : sOf 1 = ⟨#[49]⟩ := by
  rw [sOf_pos (by decide), decD_pad, show (1 : Int).natAbs = 1 from rfl, Lib.nDigits_small (by decide)]
  rfl
theorem ex_get : getV obj_ [⟨#[97]⟩, ⟨#[49]⟩] = some (nV_ 6) := by
  have h1 : plc obj_ ⟨#[97]⟩ = 0 := by decide +kernel
  have h2 : plc lst_ ⟨#[49]⟩ = 1 := by
    rw [plc_mk, if_neg (by decide), if_pos rfl]
    exact ixT_yes (n := 2) (i := 1) (by decide) sOf_1
  rw [getV, h1, if_neg (by decide)]
  show getV lst_ _ = _
  rw [getV, h2, if_neg (by decide)]
  rfl
theorem ex_obj : objF [⟨#[97]⟩] [lst_] = .tup [.agg (cellsV obj_), vI 0] := by
  unfold objF
  rw [if_neg (by decide), if_neg (by decide +kernel)]
  have : putAll [] [] [⟨#[97]⟩] [lst_] = some ([⟨#[97]⟩], [lst_]) := by
    rw [putAll, if_neg (by decide +kernel), putAll.eq_2 _ _ _ _ (fun _ _ _ _ h => by cases h)]
    have p1 : posT [] ⟨#[97]⟩ = 0 := by decide +kernel
    rw [p1]
    rfl
  rw [this, objR]
theorem ex_gv : GV obj_ := ⟨by decide +kernel, by decide +kernel⟩
set_option maxHeartbeats 4000000 in
theorem awake_ok : Ok Tryd.prog 9 [] (vB true) := by
  have c1 := num_ok 5
  have c2 := num_ok 6
  have c3 := list_ok [nV_ 5, nV_ 6] (by decide)
  have c4 := object_ok [⟨#[97]⟩] [lst_] (by intro s h; simp at h; subst h; decide) (by decide) (by decide)
  rw [ex_obj] at c4
  have c5 := get_ok obj_ [⟨#[97]⟩, ⟨#[49]⟩] ex_gv (by intro s h; simp at h; rcases h with rfl | rfl <;> decide) (by decide)
  rw [ex_get] at c5
  unfold resG at c5
  simp only [encT, encV_cons, encV_nil, encT_nil, List.map_cons, List.map_nil, V.kind_mk, V.b_mk, V.n_mk, V.s_mk, V.items_mk, V.keys_mk, cellsV] at c1 c2 c3 c4 c5
  refine Ok.of_pwp (by kernel_rfl) Tryd.func9 rfl (by kernel_rfl) (by kernel_rfl) ?_
  simp (implicitDefEqProofs := false) (disch := omega) only [go_sem, simprocAttr, go_sem, Nat.le_refl, Int.toNat_natCast, Int.toNat_zero, Int.toNat_one, str_eq, cellsV, decide_true, Bool.not_true, Bool.not_false, beq_self_eq_true, encV_nil, encT_nil, List.getD_cons_zero, Tryd.results9]
  with_reducible refine CallOk.of c1 rfl ?_
  simp (implicitDefEqProofs := false) (disch := omega) only [go_sem, simprocAttr, go_sem, Nat.le_refl, Int.toNat_natCast, Int.toNat_zero, Int.toNat_one, str_eq, cellsV, decide_true, Bool.not_true, Bool.not_false, beq_self_eq_true, encV_nil, encT_nil, List.getD_cons_zero, Tryd.results9]
  with_reducible refine CallOk.of c2 rfl ?_
  simp (implicitDefEqProofs := false) (disch := omega) only [go_sem, simprocAttr, go_sem, Nat.le_refl, Int.toNat_natCast, Int.toNat_zero, Int.toNat_one, str_eq, cellsV, decide_true, Bool.not_true, Bool.not_false, beq_self_eq_true, encV_nil, encT_nil, List.getD_cons_zero, Tryd.results9]
  with_reducible refine CallOk.of c3 rfl ?_
  simp (implicitDefEqProofs := false) (disch := omega) only [go_sem, simprocAttr, go_sem, Nat.le_refl, Int.toNat_natCast, Int.toNat_zero, Int.toNat_one, str_eq, cellsV, decide_true, Bool.not_true, Bool.not_false, beq_self_eq_true, encV_nil, encT_nil, List.getD_cons_zero, Tryd.results9]
  with_reducible refine CallOk.of c4 rfl ?_
  simp (implicitDefEqProofs := false) (disch := omega) only [go_sem, simprocAttr, go_sem, Nat.le_refl, Int.toNat_natCast, Int.toNat_zero, Int.toNat_one, str_eq, cellsV, decide_true, Bool.not_true, Bool.not_false, beq_self_eq_true, encV_nil, encT_nil, List.getD_cons_zero, Tryd.results9]
  with_reducible refine CallOk.of c5 rfl ?_
  simp (implicitDefEqProofs := false) (disch := omega) only [go_sem, simprocAttr, go_sem, Nat.le_refl, Int.toNat_natCast, Int.toNat_zero, Int.toNat_one, str_eq, cellsV, decide_true, Bool.not_true, Bool.not_false, beq_self_eq_true, encV_nil, encT_nil, List.getD_cons_zero, Tryd.results9]
theorem getV_gv : ∀ {p : List ByteArray} {v u : V}, GV v → getV v p = some u → GV u
  | [], v, u, h, k => by cases k; exact h
  | t :: r, v, u, h, k => by
    rw [getV] at k
    split at k
    · cases k
    · rename_i hn
      exact getV_gv (h.item (getD_mem (h.at hn))) k
theorem vz_gv : GV vZero := ⟨by decide +kernel, by rw [szV_eq]; decide +kernel⟩
set_option maxHeartbeats 4000000 in
theorem gets_ok (l : List Nd) (p : List ByteArray) (hN : NdsOk l) (hl : l.length ≤ 9223372036854775807) (hpl : p.length ≤ 9223372036854775807) : Ok Tryd.prog 3 [.sl (encN l), .sl (encT p)] (vB true) := by
  have c0 := awake_ok
  have c1 := steps_ok p hpl
  refine Ok.of_pwp (by kernel_rfl) Tryd.func3 rfl (by kernel_rfl) (by kernel_rfl) ?_
  cases hs : stepsB p with
  | false =>
    rw [hs] at c1
    simp (implicitDefEqProofs := false) (disch := omega) only [go_sem, simprocAttr, go_sem, Nat.le_refl, Int.toNat_natCast, Int.toNat_zero, Int.toNat_one, str_eq, cellsV, decide_true, Bool.not_true, Bool.not_false, beq_self_eq_true, Tryd.results3]
    with_reducible refine CallOk.of c0 rfl ?_
    simp (implicitDefEqProofs := false) (disch := omega) only [go_sem, simprocAttr, go_sem, Nat.le_refl, Int.toNat_natCast, Int.toNat_zero, Int.toNat_one, str_eq, cellsV, decide_true, Bool.not_true, Bool.not_false, beq_self_eq_true, Tryd.results3]
    with_reducible refine CallOk.of c1 rfl ?_
    simp (implicitDefEqProofs := false) (disch := omega) only [go_sem, simprocAttr, go_sem, Nat.le_refl, Int.toNat_natCast, Int.toNat_zero, Int.toNat_one, str_eq, cellsV, decide_true, Bool.not_true, Bool.not_false, beq_self_eq_true, Tryd.results3]
    with_reducible refine CallOk.of c0 rfl ?_
    simp (implicitDefEqProofs := false) (disch := omega) only [go_sem, simprocAttr, go_sem, Nat.le_refl, Int.toNat_natCast, Int.toNat_zero, Int.toNat_one, str_eq, cellsV, decide_true, Bool.not_true, Bool.not_false, beq_self_eq_true, Tryd.results3]
  | true =>
  rw [hs] at c1
  unfold stepsB stepB at hs
  simp only [Bool.and_eq_true, List.all_eq_true, decide_eq_true_eq] at hs
  have hfw : fewT p := fun s h => by have := (hs.1 s h).1; omega
  simp (implicitDefEqProofs := false) (disch := omega) only [go_sem, simprocAttr, go_sem, Nat.le_refl, Int.toNat_natCast, Int.toNat_zero, Int.toNat_one, str_eq, cellsV, decide_true, Bool.not_true, Bool.not_false, beq_self_eq_true, Tryd.results3]
  with_reducible refine CallOk.of c0 rfl ?_
  simp (implicitDefEqProofs := false) (disch := omega) only [go_sem, simprocAttr, go_sem, Nat.le_refl, Int.toNat_natCast, Int.toNat_zero, Int.toNat_one, str_eq, cellsV, decide_true, Bool.not_true, Bool.not_false, beq_self_eq_true, Tryd.results3]
  with_reducible refine CallOk.of c1 rfl ?_
  simp (implicitDefEqProofs := false) (disch := omega) only [go_sem, simprocAttr, go_sem, Nat.le_refl, Int.toNat_natCast, Int.toNat_zero, Int.toNat_one, str_eq, cellsV, decide_true, Bool.not_true, Bool.not_false, beq_self_eq_true, Tryd.results3]
  refine CallOk.ofI (OkI.ofQ (st := ⟨[], _, _, _, _⟩) (tree_ok l hN hl) ?_) rfl rfl rfl rfl ?_
  · rfl
  rintro r st1 ⟨⟨v, hv, rfl⟩, rfl⟩
  have gv := hv.gv
  have c2 := real_ok v gv.2
  have c3 := get_ok v p gv hfw (by omega)
  have c4 := rget_ok v p gv hfw (by omega)
  cases hg : getV v p with
  | none =>
    rw [hg] at c3 c4
    have c5 := ref_ok vZero vz_gv.2
    have c6 := same_ok vZero vz_gv.2 vZero vz_gv.2
    rw [sameV_T rfl] at c6
    unfold resG at c3
    unfold resB at c4
    rw [vz_cells] at c3 c4 c5 c6
    simp (implicitDefEqProofs := false) (disch := omega) only [go_sem, simprocAttr, go_sem, Nat.le_refl, Int.toNat_natCast, Int.toNat_zero, Int.toNat_one, str_eq, cellsV, decide_true, Bool.not_true, Bool.not_false, beq_self_eq_true, Tryd.results3]
    with_reducible refine CallOk.of c2 rfl ?_
    simp (implicitDefEqProofs := false) (disch := omega) only [go_sem, simprocAttr, go_sem, Nat.le_refl, Int.toNat_natCast, Int.toNat_zero, Int.toNat_one, str_eq, cellsV, decide_true, Bool.not_true, Bool.not_false, beq_self_eq_true, Tryd.results3]
    with_reducible refine CallOk.of c3 rfl ?_
    simp (implicitDefEqProofs := false) (disch := omega) only [go_sem, simprocAttr, go_sem, Nat.le_refl, Int.toNat_natCast, Int.toNat_zero, Int.toNat_one, str_eq, cellsV, decide_true, Bool.not_true, Bool.not_false, beq_self_eq_true, Tryd.results3]
    with_reducible refine CallOk.of c4 rfl ?_
    simp (implicitDefEqProofs := false) (disch := omega) only [go_sem, simprocAttr, go_sem, Nat.le_refl, Int.toNat_natCast, Int.toNat_zero, Int.toNat_one, str_eq, cellsV, decide_true, Bool.not_true, Bool.not_false, beq_self_eq_true, Tryd.results3]
    with_reducible refine CallOk.of c5 rfl ?_
    simp (implicitDefEqProofs := false) (disch := omega) only [go_sem, simprocAttr, go_sem, Nat.le_refl, Int.toNat_natCast, Int.toNat_zero, Int.toNat_one, str_eq, cellsV, decide_true, Bool.not_true, Bool.not_false, beq_self_eq_true, Tryd.results3]
    with_reducible refine CallOk.of c6 rfl ?_
    simp (implicitDefEqProofs := false) (disch := omega) only [go_sem, simprocAttr, go_sem, Nat.le_refl, Int.toNat_natCast, Int.toNat_zero, Int.toNat_one, str_eq, cellsV, decide_true, Bool.not_true, Bool.not_false, beq_self_eq_true, Tryd.results3]
  | some u =>
    have gu := getV_gv gv hg
    rw [hg] at c3 c4
    have c5 := ref_ok u gu.2
    have c6 := same_ok u gu.2 u gu.2
    rw [sameV_T rfl] at c6
    unfold resG at c3
    unfold resB at c4
    simp only [cellsV] at c3 c4 c5 c6
    simp (implicitDefEqProofs := false) (disch := omega) only [go_sem, simprocAttr, go_sem, Nat.le_refl, Int.toNat_natCast, Int.toNat_zero, Int.toNat_one, str_eq, cellsV, decide_true, Bool.not_true, Bool.not_false, beq_self_eq_true, Tryd.results3]
    with_reducible refine CallOk.of c2 rfl ?_
    simp (implicitDefEqProofs := false) (disch := omega) only [go_sem, simprocAttr, go_sem, Nat.le_refl, Int.toNat_natCast, Int.toNat_zero, Int.toNat_one, str_eq, cellsV, decide_true, Bool.not_true, Bool.not_false, beq_self_eq_true, Tryd.results3]
    with_reducible refine CallOk.of c3 rfl ?_
    simp (implicitDefEqProofs := false) (disch := omega) only [go_sem, simprocAttr, go_sem, Nat.le_refl, Int.toNat_natCast, Int.toNat_zero, Int.toNat_one, str_eq, cellsV, decide_true, Bool.not_true, Bool.not_false, beq_self_eq_true, Tryd.results3]
    with_reducible refine CallOk.of c4 rfl ?_
    simp (implicitDefEqProofs := false) (disch := omega) only [go_sem, simprocAttr, go_sem, Nat.le_refl, Int.toNat_natCast, Int.toNat_zero, Int.toNat_one, str_eq, cellsV, decide_true, Bool.not_true, Bool.not_false, beq_self_eq_true, Tryd.results3]
    with_reducible refine CallOk.of c5 rfl ?_
    simp (implicitDefEqProofs := false) (disch := omega) only [go_sem, simprocAttr, go_sem, Nat.le_refl, Int.toNat_natCast, Int.toNat_zero, Int.toNat_one, str_eq, cellsV, decide_true, Bool.not_true, Bool.not_false, beq_self_eq_true, Tryd.results3]
    with_reducible refine CallOk.of c6 rfl ?_
    simp (implicitDefEqProofs := false) (disch := omega) only [go_sem, simprocAttr, go_sem, Nat.le_refl, Int.toNat_natCast, Int.toNat_zero, Int.toNat_one, str_eq, cellsV, decide_true, Bool.not_true, Bool.not_false, beq_self_eq_true, Tryd.results3]
end Go.Proofs.YtahgjolokkfhjaaDoor

end
section
/-
  Chapter 4: the laws, as their rows ask them.
-/
open Go Go.Proofs Go.Pw Go.RowKit
namespace Go.Proofs.YtahgjolokkfhjaaDoor
set_option maxRecDepth 4000
theorem gets_row (l : List Nd) (p : List ByteArray) (hN : NdsOk l) (hl : l.length ≤ 9223372036854775807) (hP : ∀ s ∈ p, s.size ≤ maxLen) (hpl : p.length ≤ 9223372036854775807) : Ok Tryd.prog 3 [.sl (encN l), .sl (encT p)] (vB true) :=
  gets_ok l p hN hl hpl
end Go.Proofs.YtahgjolokkfhjaaDoor

end
section
/-
  How nodes and lists of texts read, as a law's arguments.
-/
open Go Go.Proofs Go.Pw Go.RowKit
namespace Go.Proofs.YtahgjolokkfhjaaDoor
set_option maxRecDepth 4000
set_option linter.unusedVariables false
set_option linter.unusedSimpArgs false
theorem wf_u8_ {n : Int} (h : (Lit.int .u8 n).wf = true) : 0 ≤ n ∧ n ≤ 255 := by
  simp only [Lit.wf, Bool.and_eq_true, decide_eq_true_eq] at h
  exact h
section
variable {H : Type} {en : TypeId × Value → H} {w : World} {base : Nat} {spare : Nat → Bool} {held : Bool}
theorem rdTexts : Rd en Tryd.prog w base spare held 23 (fun l : List ByteArray => [.sl (encT l)]) (fun l => l.length ≤ maxLen ∧ ∀ s ∈ l, s.size ≤ maxLen) :=
  Rd.slice (sz := 1) Tryd.underlying23 (by kernel_rfl) (by decide) (fun _ => rfl) (Rd.string Tryd.underlying9)
theorem rdBytes : Rd en Tryd.prog w base spare held 71 (fun l : List Int => [.sl (encC l)]) (fun l => l.length ≤ maxLen ∧ ∀ n ∈ l, (Lit.int .u8 n).wf = true) :=
  Rd.slice (sz := 1) Tryd.underlying71 (by kernel_rfl) (by decide) (fun _ => rfl) (Rd.int Tryd.underlying5)
theorem rdNode : Rd en Tryd.prog w base spare held 73 cellsN NdOk := by
  refine Rd.map (Rd.struct5 Tryd.underlying73 rfl (by kernel_rfl) rfl rfl rfl rfl rfl (by kernel_rfl) (by kernel_rfl) (by kernel_rfl) (by kernel_rfl) (by kernel_rfl)
    (Rd.int Tryd.underlying5) (Rd.int Tryd.underlying2) (Rd.string Tryd.underlying9) rdBytes rdTexts)
    (fun a => ⟨a.1, a.2.1, a.2.2.1, a.2.2.2.1, a.2.2.2.2⟩) (fun a => rfl) (fun a h => ⟨wf_u8_ h.1, fun d hd => wf_u8_ (h.2.2.2.1.2 d hd), h.2.2.2.1.1, h.2.2.2.2.1⟩)
theorem rdNodes : Rd en Tryd.prog w base spare held 22 (fun l : List Nd => [.sl (encN l)]) (fun l => l.length ≤ maxLen ∧ NdsOk l) :=
  Rd.slice (sz := 5) Tryd.underlying22 (by kernel_rfl) (by decide) (fun _ => rfl) rdNode
end
end Go.Proofs.YtahgjolokkfhjaaDoor

end
